/- An index in plain Lean: entries, what a command meets, and the greatest number of these. An index in memory: its block, its maps, its groups; what turns when it is written. package index: New, Len, isWide, Drop. index.Drop. index.in: an id comes into a group. index.Put. index.near: the groups of what a command may meet. A row of ids of the call's own; the library's clone and sort at it. -/
import Derived.Test.YtpdfbkkhmfnnjaaIndexMeetsQ0
import Derived.Test.YtpdfbkkhmfnnjaaIndexMeetsQ1
import Derived.Test.YtpdfbkkhmfnnjaaIndexMeetsQ2
import Derived.WalkKit
import Derived.WalkSpells
import Derived.WalkLawsBesides
import Derived.Deep.RegionHeld3
import Derived.Deep.DrawnRows
import Derived.Deep.DeepCutAuto
import Derived.Deep.DeepFit
import Derived.Lib.Hide
import Derived.BigQuiet
import Derived.Deep.QuietTactic
import Derived.Test.YtpdfbkkhmfnnjaaSortL
import Derived.Lib.OwnBridge
import Derived.Lib.SlicesCompact
namespace Go.Proofs.Ytpdfbkkhmfnnjaa
open Go.RowKit
set_option linter.unusedVariables false
set_option linter.unusedSimpArgs false
set_option maxRecDepth 20000
attribute [local go_sem ↓] Go.wp_at_zero Go.wp_at_succ
attribute [local go_sem] World.cell?_alloc_some frozen_alloc_some

/-- An id, a command, and a number. -/
structure EntT where
  i : IdP
  c : CmdT
  s : Int
def EntT.id (e : EntT) : IdP := e.i
def dropE (y : List EntT) (i : IdP) : List EntT := y.filter fun e => decide (e.i ≠ i)
def putE (y : List EntT) (e : EntT) : List EntT := dropE y e.i ++ [e]
def meetE (c : CmdT) (but : IdP) (e : EntT) : Bool := decide (e.i ≠ but) && cmeet c.kind c.client c.key e.c.kind e.c.client e.c.key
def isWideC (c : CmdT) : Bool := decide (c.kind = 5) || decide (c.kind = 6)
def maxE (n : Int) (l : List EntT) : Int := l.foldl (fun n e => max n e.s) n
def depsE (y : List EntT) (c : CmdT) (but : IdP) : List IdP := idSet ((y.filter (meetE c but)).map EntT.id)
def seqE (y : List EntT) (c : CmdT) (but : IdP) : Int := maxE 0 (y.filter (meetE c but)) + 1
abbrev Uq (y : List EntT) : Prop := y.Pairwise fun a b => a.i ≠ b.i
theorem mem_dropE {y : List EntT} {i : IdP} {e : EntT} : e ∈ dropE y i ↔ e ∈ y ∧ e.i ≠ i := by simp [dropE]
theorem uq_one {y : List EntT} (h : Uq y) {a b : EntT} (ha : a ∈ y) (hb : b ∈ y) (e : a.i = b.i) : a = b := by
  induction y with
  | nil => cases ha
  | cons v r ih =>
    obtain ⟨h1, h2⟩ := List.pairwise_cons.1 h
    rcases List.mem_cons.1 ha with e1 | ha2
    · rcases List.mem_cons.1 hb with e2 | hb2
      · rw [e1, e2]
      · exact absurd (by rw [← e1]; exact e) (h1 b hb2)
    · rcases List.mem_cons.1 hb with e2 | hb2
      · exact absurd (by rw [← e2]; exact e.symm) (h1 a ha2)
      · exact ih h2 ha2 hb2
theorem uq_drop {y : List EntT} (h : Uq y) (i : IdP) : Uq (dropE y i) := List.Pairwise.filter _ h
theorem uq_put {y : List EntT} (h : Uq y) (e : EntT) : Uq (putE y e) :=
  List.pairwise_append.2 ⟨uq_drop h _, by simp, fun a ha b hb => by simp at hb; rw [hb]; exact (mem_dropE.1 ha).2⟩
theorem dropE_le (y : List EntT) (i : IdP) : (dropE y i).length ≤ y.length := List.length_filter_le _ _
theorem putE_le (y : List EntT) (e : EntT) : (putE y e).length ≤ y.length + 1 := by
  unfold putE
  rw [List.length_append]
  have := dropE_le y e.i
  simp only [List.length_cons, List.length_nil]
  omega
theorem dropE_none {y : List EntT} {i : IdP} (h : ∀ e ∈ y, e.i ≠ i) : dropE y i = y := List.filter_eq_self.2 fun t ht => by simpa using h t ht
theorem maxE_snoc (n : Int) (l : List EntT) (e : EntT) : maxE n (l ++ [e]) = max (maxE n l) e.s := by simp [maxE]
theorem maxE_spec : ∀ (l : List EntT) (n : Int), n ≤ maxE n l ∧ (∀ e ∈ l, e.s ≤ maxE n l) ∧ (maxE n l = n ∨ ∃ e ∈ l, maxE n l = e.s)
  | [], n => ⟨Int.le_refl _, (fun e h => by cases h), .inl rfl⟩
  | a :: l, n => by
    obtain ⟨h1, h2, h3⟩ := maxE_spec l (max n a.s)
    have hr : maxE n (a :: l) = maxE (max n a.s) l := rfl
    rw [hr]
    refine ⟨by omega, fun e he => ?_, ?_⟩
    · rcases List.mem_cons.1 he with rfl | he
      · omega
      · exact h2 e he
    · rcases h3 with h3 | ⟨e, he, h3⟩
      · rw [h3]
        by_cases hm : n ≤ a.s
        · exact .inr ⟨a, by simp, by omega⟩
        · exact .inl (by omega)
      · exact .inr ⟨e, by simp [he], h3⟩
theorem maxE_congr {l l' : List EntT} (h : ∀ e, e ∈ l ↔ e ∈ l') (n : Int) : maxE n l = maxE n l' := by
  obtain ⟨a1, a2, a3⟩ := maxE_spec l n
  obtain ⟨b1, b2, b3⟩ := maxE_spec l' n
  have h1 : maxE n l ≤ maxE n l' := by
    rcases a3 with e | ⟨x, hx, e⟩
    · omega
    · have := b2 x ((h x).1 hx); omega
  have h2 : maxE n l' ≤ maxE n l := by
    rcases b3 with e | ⟨x, hx, e⟩
    · omega
    · have := a2 x ((h x).2 hx); omega
  omega
theorem depsE_of {y l : List EntT} {c : CmdT} {but : IdP} (h : ∀ e, e ∈ l ↔ e ∈ y ∧ meetE c but e = true) : idSet (l.map EntT.id) = depsE y c but := by
  refine idSet_congr fun x => ?_
  simp only [List.mem_map, List.mem_filter]
  constructor
  · rintro ⟨e, he, rfl⟩; exact ⟨e, (h e).1 he, rfl⟩
  · rintro ⟨e, he, rfl⟩; exact ⟨e, (h e).2 he, rfl⟩
theorem seqE_of {y l : List EntT} {c : CmdT} {but : IdP} (h : ∀ e, e ∈ l ↔ e ∈ y ∧ meetE c but e = true) : maxE 0 l + 1 = seqE y c but := by
  unfold seqE
  rw [maxE_congr fun e => (h e).trans List.mem_filter.symm]
/-- What meets lies near: under its key, its client, or among those of many keys. -/
theorem meet_near {c : CmdT} {but : IdP} {e : EntT} (h : meetE c but e = true) (hw : isWideC c = false) : e.c.key = c.key ∨ e.c.client = c.client ∨ isWideC e.c = true := by
  simp only [isWideC, Bool.or_eq_false_iff, decide_eq_false_iff_not] at hw
  simp only [meetE, Bool.and_eq_true, cmeet] at h
  obtain ⟨_, h⟩ := h
  split at h
  · cases h
  · split at h
    · next h2 =>
      rcases h2 with h2 | h2 | h2
      · exact absurd h2 hw.2
      · exact .inr (.inr (by simp [isWideC, h2]))
      · exact .inr (.inl h2.symm)
    · simp only [Bool.and_eq_true, ckeys, Bool.or_eq_true, decide_eq_true_eq, beq_iff_eq] at h
      rcases h.2 with (h3 | h3) | h3
      · exact .inl h3.symm
      · exact absurd h3.1 hw.1
      · exact .inr (.inr (by simp [isWideC, h3.1]))

/-- What the groups hold: the ids of a key, of a client, of all that look at many keys. -/
structure InvX (y : List EntT) (ks : List (ByteArray × Nat)) (cs : List (Int × Nat)) (bw : Nat) (co : Nat → List IdP) : Prop where
  uq : Uq y
  kk : ks.Pairwise fun a b => a.1 ≠ b.1
  cc : cs.Pairwise fun a b => a.1 ≠ b.1
  nd : (bw :: (ks.map (·.2) ++ cs.map (·.2))).Nodup
  one : ∀ b, (co b).Nodup
  kin : ∀ t ∈ ks, ∀ i, i ∈ co t.2 ↔ ∃ e ∈ y, e.i = i ∧ e.c.key = t.1
  cin : ∀ t ∈ cs, ∀ i, i ∈ co t.2 ↔ ∃ e ∈ y, e.i = i ∧ e.c.client = t.1
  win : ∀ i, i ∈ co bw ↔ ∃ e ∈ y, e.i = i ∧ isWideC e.c = true
  kall : ∀ e ∈ y, ∃ b, (e.c.key, b) ∈ ks
  call : ∀ e ∈ y, ∃ b, (e.c.client, b) ∈ cs
theorem InvX.empty (bw : Nat) (co : Nat → List IdP) (h : ∀ b, co b = []) : InvX [] [] [] bw co :=
  ⟨List.Pairwise.nil, List.Pairwise.nil, List.Pairwise.nil, by simp, fun b => by rw [h]; simp, (fun t ht => by cases ht), (fun t ht => by cases ht), (fun i => by rw [h]; simp), (fun e he => by cases he), (fun e he => by cases he)⟩
def outI (l : List IdP) (i : IdP) : List IdP := l.filter fun x => decide (x ≠ i)
theorem mem_outI {l : List IdP} {i x : IdP} : x ∈ outI l i ↔ x ∈ l ∧ x ≠ i := by simp [outI]
def upd (co : Nat → List IdP) (b : Nat) (l : List IdP) : Nat → List IdP := fun k => if k = b then l else co k
theorem upd_same (co : Nat → List IdP) (b : Nat) (l : List IdP) : upd co b l b = l := by simp [upd]
theorem upd_ne {co : Nat → List IdP} {b k : Nat} {l : List IdP} (h : k ≠ b) : upd co b l k = co k := by simp [upd, h]
variable {y : List EntT} {ks : List (ByteArray × Nat)} {cs : List (Int × Nat)} {bw : Nat} {co : Nat → List IdP}
theorem pair_key {α β : Type} {l : List (α × β)} (h : l.Pairwise fun a b => a.1 ≠ b.1) {t u : α × β} (ht : t ∈ l) (hu : u ∈ l) (e : t.1 = u.1) : t = u := by
  induction l with
  | nil => cases ht
  | cons v r ih =>
    obtain ⟨h1, h2⟩ := List.pairwise_cons.1 h
    rcases List.mem_cons.1 ht with e1 | ht2
    · rcases List.mem_cons.1 hu with e2 | hu2
      · rw [e1, e2]
      · exact absurd (by rw [← e1]; exact e) (h1 u hu2)
    · rcases List.mem_cons.1 hu with e2 | hu2
      · exact absurd (by rw [← e2]; exact e.symm) (h1 t ht2)
      · exact ih h2 ht2 hu2
theorem nodup_snd {α : Type} {l : List (α × Nat)} (h : (l.map (·.2)).Nodup) {t u : α × Nat} (ht : t ∈ l) (hu : u ∈ l) (e : t.2 = u.2) : t = u := by
  induction l with
  | nil => cases ht
  | cons v r ih =>
    rw [List.map_cons, List.nodup_cons] at h
    obtain ⟨h1, h2⟩ := h
    rcases List.mem_cons.1 ht with e1 | ht2
    · rcases List.mem_cons.1 hu with e2 | hu2
      · rw [e1, e2]
      · exact absurd (List.mem_map.2 ⟨u, hu2, by rw [← e, e1]⟩) h1
    · rcases List.mem_cons.1 hu with e2 | hu2
      · exact absurd (List.mem_map.2 ⟨t, ht2, by rw [e, e2]⟩) h1
      · exact ih h2 ht2 hu2
theorem InvX.apart (h : InvX y ks cs bw co) : (∀ t ∈ ks, t.2 ≠ bw) ∧ (∀ t ∈ cs, t.2 ≠ bw) ∧ (∀ t ∈ ks, ∀ u ∈ cs, t.2 ≠ u.2) ∧ (∀ t ∈ ks, ∀ u ∈ ks, t.2 = u.2 → t = u) ∧ (∀ t ∈ cs, ∀ u ∈ cs, t.2 = u.2 → t = u) := by
  obtain ⟨h1, h2⟩ := List.nodup_cons.1 h.nd
  obtain ⟨h3, h4, h5⟩ := List.nodup_append.1 h2
  refine ⟨fun t ht e => h1 (List.mem_append_left _ (List.mem_map.2 ⟨t, ht, e⟩)), fun t ht e => h1 (List.mem_append_right _ (List.mem_map.2 ⟨t, ht, e⟩)), fun t ht u hu e => h5 t.2 (List.mem_map.2 ⟨t, ht, rfl⟩) u.2 (List.mem_map.2 ⟨u, hu, rfl⟩) e,
    fun t ht u hu e => nodup_snd h3 ht hu e, fun t ht u hu e => nodup_snd h4 ht hu e⟩
/-- An entry goes: out of the three groups that have it. -/
theorem InvX.drop (h : InvX y ks cs bw co) {e : EntT} (he : e ∈ y) {bk bc : Nat} (hk : (e.c.key, bk) ∈ ks) (hc : (e.c.client, bc) ∈ cs) :
    InvX (dropE y e.i) ks cs bw (upd (upd (upd co bw (outI (co bw) e.i)) bk (outI (co bk) e.i)) bc (outI (co bc) e.i)) := by
  obtain ⟨a1, a2, a3, a4, a5⟩ := h.apart
  have hkb := a1 _ hk
  have hcb := a2 _ hc
  have hkc := a3 _ hk _ hc
  simp only at hkb hcb hkc
  have gk : ∀ t ∈ ks, (t.2 = bk → upd (upd (upd co bw (outI (co bw) e.i)) bk (outI (co bk) e.i)) bc (outI (co bc) e.i) t.2 = outI (co t.2) e.i) ∧ (t.2 ≠ bk → upd (upd (upd co bw (outI (co bw) e.i)) bk (outI (co bk) e.i)) bc (outI (co bc) e.i) t.2 = co t.2) := fun t ht =>
    ⟨fun e1 => by rw [upd_ne (a3 t ht _ hc), e1, upd_same], fun e1 => by rw [upd_ne (a3 t ht _ hc), upd_ne e1, upd_ne (a1 t ht)]⟩
  have gc : ∀ t ∈ cs, (t.2 = bc → upd (upd (upd co bw (outI (co bw) e.i)) bk (outI (co bk) e.i)) bc (outI (co bc) e.i) t.2 = outI (co t.2) e.i) ∧ (t.2 ≠ bc → upd (upd (upd co bw (outI (co bw) e.i)) bk (outI (co bk) e.i)) bc (outI (co bc) e.i) t.2 = co t.2) := fun t ht =>
    ⟨fun e1 => by rw [e1, upd_same], fun e1 => by rw [upd_ne e1, upd_ne (fun e2 => a3 _ hk t ht e2.symm), upd_ne (a2 t ht)]⟩
  have gw : upd (upd (upd co bw (outI (co bw) e.i)) bk (outI (co bk) e.i)) bc (outI (co bc) e.i) bw = outI (co bw) e.i := by rw [upd_ne (fun e1 => hcb e1.symm), upd_ne (fun e1 => hkb e1.symm), upd_same]
  refine ⟨uq_drop h.uq _, h.kk, h.cc, h.nd, fun b => ?_, fun t ht i => ?_, fun t ht i => ?_, fun i => ?_, fun x hx => h.kall x (mem_dropE.1 hx).1, fun x hx => h.call x (mem_dropE.1 hx).1⟩
  · have f : ∀ k, (outI (co k) e.i).Nodup := fun k => List.Pairwise.filter _ (h.one k)
    unfold upd
    split
    · exact f _
    · split
      · exact f _
      · split
        · exact f _
        · exact h.one b
  · by_cases e1 : t.2 = bk
    · rw [(gk t ht).1 e1, mem_outI, h.kin t ht]
      constructor
      · rintro ⟨⟨x, hx, rfl, hxk⟩, hne⟩
        exact ⟨x, mem_dropE.2 ⟨hx, hne⟩, rfl, hxk⟩
      · rintro ⟨x, hx, rfl, hxk⟩
        exact ⟨⟨x, (mem_dropE.1 hx).1, rfl, hxk⟩, (mem_dropE.1 hx).2⟩
    · rw [(gk t ht).2 e1, h.kin t ht]
      constructor
      · rintro ⟨x, hx, rfl, hxk⟩
        refine ⟨x, mem_dropE.2 ⟨hx, fun e2 => e1 ?_⟩, rfl, hxk⟩
        obtain rfl := uq_one h.uq hx he e2
        exact congrArg Prod.snd (pair_key h.kk ht hk hxk.symm)
      · rintro ⟨x, hx, rfl, hxk⟩
        exact ⟨x, (mem_dropE.1 hx).1, rfl, hxk⟩
  · by_cases e1 : t.2 = bc
    · rw [(gc t ht).1 e1, mem_outI, h.cin t ht]
      constructor
      · rintro ⟨⟨x, hx, rfl, hxk⟩, hne⟩
        exact ⟨x, mem_dropE.2 ⟨hx, hne⟩, rfl, hxk⟩
      · rintro ⟨x, hx, rfl, hxk⟩
        exact ⟨⟨x, (mem_dropE.1 hx).1, rfl, hxk⟩, (mem_dropE.1 hx).2⟩
    · rw [(gc t ht).2 e1, h.cin t ht]
      constructor
      · rintro ⟨x, hx, rfl, hxk⟩
        refine ⟨x, mem_dropE.2 ⟨hx, fun e2 => e1 ?_⟩, rfl, hxk⟩
        obtain rfl := uq_one h.uq hx he e2
        exact congrArg Prod.snd (pair_key h.cc ht hc hxk.symm)
      · rintro ⟨x, hx, rfl, hxk⟩
        exact ⟨x, (mem_dropE.1 hx).1, rfl, hxk⟩
  · rw [gw, mem_outI, h.win]
    constructor
    · rintro ⟨⟨x, hx, rfl, hxk⟩, hne⟩
      exact ⟨x, mem_dropE.2 ⟨hx, hne⟩, rfl, hxk⟩
    · rintro ⟨x, hx, rfl, hxk⟩
      exact ⟨⟨x, (mem_dropE.1 hx).1, rfl, hxk⟩, (mem_dropE.1 hx).2⟩
/-- A key, or a client, comes whose group is empty. -/
theorem InvX.newKey (h : InvX y ks cs bw co) {k : ByteArray} {b : Nat} (hk : ∀ t ∈ ks, t.1 ≠ k) (hb : b ∉ bw :: (ks.map (·.2) ++ cs.map (·.2))) : InvX y (ks ++ [(k, b)]) cs bw (upd co b []) := by
  have hb2 : b ≠ bw ∧ (∀ t ∈ ks, t.2 ≠ b) ∧ ∀ t ∈ cs, t.2 ≠ b := by
    simp only [List.mem_cons, List.mem_append, List.mem_map, not_or, not_exists, not_and] at hb
    exact ⟨hb.1, fun t ht => hb.2.1 t ht, fun t ht => hb.2.2 t ht⟩
  obtain ⟨b1, b2, b3⟩ := hb2
  refine ⟨h.uq, List.pairwise_append.2 ⟨h.kk, by simp, fun t ht u hu => by simp at hu; rw [hu]; exact hk t ht⟩, h.cc, ?_, fun x => ?_, fun t ht i => ?_, fun t ht i => ?_, fun i => ?_, fun e he => ?_, h.call⟩
  · have hp : (bw :: ((ks ++ [(k, b)]).map (·.2) ++ cs.map (·.2))).Perm (b :: (bw :: (ks.map (·.2) ++ cs.map (·.2)))) := by
      rw [List.map_append]
      simp only [List.map_cons, List.map_nil, List.append_assoc, List.singleton_append]
      exact ((List.perm_middle (a := b)).cons bw).trans (List.Perm.swap _ _ _)
    rw [hp.nodup_iff]
    exact List.nodup_cons.2 ⟨hb, h.nd⟩
  · unfold upd
    split
    · simp
    · exact h.one x
  · rcases List.mem_append.1 ht with ht | ht
    · rw [upd_ne (b2 t ht)]
      exact h.kin t ht i
    · simp at ht
      subst ht
      rw [upd_same]
      constructor
      · intro hi; cases hi
      · rintro ⟨e, he, _, hek⟩
        obtain ⟨b', hb'⟩ := h.kall e he
        exact absurd hek (hk _ hb')
  · rw [upd_ne (b3 t ht)]
    exact h.cin t ht i
  · rw [upd_ne (fun e => b1 e.symm)]
    exact h.win i
  · obtain ⟨b', hb'⟩ := h.kall e he
    exact ⟨b', List.mem_append_left _ hb'⟩
theorem InvX.newCli (h : InvX y ks cs bw co) {k : Int} {b : Nat} (hk : ∀ t ∈ cs, t.1 ≠ k) (hb : b ∉ bw :: (ks.map (·.2) ++ cs.map (·.2))) : InvX y ks (cs ++ [(k, b)]) bw (upd co b []) := by
  have hb2 : b ≠ bw ∧ (∀ t ∈ ks, t.2 ≠ b) ∧ ∀ t ∈ cs, t.2 ≠ b := by
    simp only [List.mem_cons, List.mem_append, List.mem_map, not_or, not_exists, not_and] at hb
    exact ⟨hb.1, fun t ht => hb.2.1 t ht, fun t ht => hb.2.2 t ht⟩
  obtain ⟨b1, b2, b3⟩ := hb2
  refine ⟨h.uq, h.kk, List.pairwise_append.2 ⟨h.cc, by simp, fun t ht u hu => by simp at hu; rw [hu]; exact hk t ht⟩, ?_, fun x => ?_, fun t ht i => ?_, fun t ht i => ?_, fun i => ?_, h.kall, fun e he => ?_⟩
  · have hp : (bw :: (ks.map (·.2) ++ (cs ++ [(k, b)]).map (·.2))).Perm (b :: (bw :: (ks.map (·.2) ++ cs.map (·.2)))) := by
      rw [List.map_append, ← List.append_assoc]
      exact ((List.perm_append_singleton b _).cons bw).trans (List.Perm.swap _ _ _)
    rw [hp.nodup_iff]
    exact List.nodup_cons.2 ⟨hb, h.nd⟩
  · unfold upd
    split
    · simp
    · exact h.one x
  · rw [upd_ne (b2 t ht)]
    exact h.kin t ht i
  · rcases List.mem_append.1 ht with ht | ht
    · rw [upd_ne (b3 t ht)]
      exact h.cin t ht i
    · simp at ht
      subst ht
      rw [upd_same]
      constructor
      · intro hi; cases hi
      · rintro ⟨e, he, _, hek⟩
        obtain ⟨b', hb'⟩ := h.call e he
        exact absurd hek (hk _ hb')
  · rw [upd_ne (fun e => b1 e.symm)]
    exact h.win i
  · obtain ⟨b', hb'⟩ := h.call e he
    exact ⟨b', List.mem_append_left _ hb'⟩
/-- An entry comes: none has its id; into the two groups, or three. -/
theorem InvX.put (h : InvX y ks cs bw co) {e : EntT} (he : ∀ x ∈ y, x.i ≠ e.i) {bk bc : Nat} (hk : (e.c.key, bk) ∈ ks) (hc : (e.c.client, bc) ∈ cs) {co' : Nat → List IdP} (h1 : ∀ b, (co' b).Nodup)
    (gk : ∀ i, i ∈ co' bk ↔ i ∈ co bk ∨ i = e.i) (gc : ∀ i, i ∈ co' bc ↔ i ∈ co bc ∨ i = e.i) (gw : ∀ i, i ∈ co' bw ↔ i ∈ co bw ∨ (isWideC e.c = true ∧ i = e.i))
    (go : ∀ b, b ≠ bk → b ≠ bc → b ≠ bw → co' b = co b) : InvX (y ++ [e]) ks cs bw co' := by
  obtain ⟨a1, a2, a3, a4, a5⟩ := h.apart
  refine ⟨List.pairwise_append.2 ⟨h.uq, by simp, fun a ha b hb => by simp at hb; rw [hb]; exact he a ha⟩, h.kk, h.cc, h.nd, h1, fun t ht i => ?_, fun t ht i => ?_, fun i => ?_, fun x hx => ?_, fun x hx => ?_⟩
  · by_cases e1 : t.2 = bk
    · obtain rfl : t = (e.c.key, bk) := a4 t ht _ hk e1
      rw [gk, h.kin _ ht]
      constructor
      · rintro (⟨x, hx, e2, e3⟩ | rfl)
        · exact ⟨x, List.mem_append_left _ hx, e2, e3⟩
        · exact ⟨e, by simp, rfl, rfl⟩
      · rintro ⟨x, hx, e2, e3⟩
        rcases List.mem_append.1 hx with hx | hx
        · exact .inl ⟨x, hx, e2, e3⟩
        · simp at hx; subst hx; exact .inr e2.symm
    · rw [go t.2 e1 (a3 t ht _ hc) (a1 t ht), h.kin _ ht]
      constructor
      · rintro ⟨x, hx, e2, e3⟩; exact ⟨x, List.mem_append_left _ hx, e2, e3⟩
      · rintro ⟨x, hx, e2, e3⟩
        rcases List.mem_append.1 hx with hx | hx
        · exact ⟨x, hx, e2, e3⟩
        · simp at hx; subst hx
          exact absurd (congrArg Prod.snd (pair_key h.kk ht hk e3.symm)) e1
  · by_cases e1 : t.2 = bc
    · obtain rfl : t = (e.c.client, bc) := a5 t ht _ hc e1
      rw [gc, h.cin _ ht]
      constructor
      · rintro (⟨x, hx, e2, e3⟩ | rfl)
        · exact ⟨x, List.mem_append_left _ hx, e2, e3⟩
        · exact ⟨e, by simp, rfl, rfl⟩
      · rintro ⟨x, hx, e2, e3⟩
        rcases List.mem_append.1 hx with hx | hx
        · exact .inl ⟨x, hx, e2, e3⟩
        · simp at hx; subst hx; exact .inr e2.symm
    · rw [go t.2 (fun e2 => a3 _ hk t ht e2.symm) e1 (a2 t ht), h.cin _ ht]
      constructor
      · rintro ⟨x, hx, e2, e3⟩; exact ⟨x, List.mem_append_left _ hx, e2, e3⟩
      · rintro ⟨x, hx, e2, e3⟩
        rcases List.mem_append.1 hx with hx | hx
        · exact ⟨x, hx, e2, e3⟩
        · simp at hx; subst hx
          exact absurd (congrArg Prod.snd (pair_key h.cc ht hc e3.symm)) e1
  · rw [gw, h.win]
    constructor
    · rintro (⟨x, hx, e2, e3⟩ | ⟨e2, rfl⟩)
      · exact ⟨x, List.mem_append_left _ hx, e2, e3⟩
      · exact ⟨e, by simp, rfl, e2⟩
    · rintro ⟨x, hx, e2, e3⟩
      rcases List.mem_append.1 hx with hx | hx
      · exact .inl ⟨x, hx, e2, e3⟩
      · simp at hx; subst hx; exact .inr ⟨e3, e2.symm⟩
  · rcases List.mem_append.1 hx with hx | hx
    · exact h.kall x hx
    · simp at hx; subst hx; exact ⟨bk, hk⟩
  · rcases List.mem_append.1 hx with hx | hx
    · exact h.call x hx
    · simp at hx; subst hx; exact ⟨bc, hc⟩
theorem isWide_default : isWideC ⟨0, 0, 0, ByteArray.empty, ByteArray.empty, 0⟩ = false := by decide
end Go.Proofs.Ytpdfbkkhmfnnjaa

namespace Go.Proofs.Ytpdfbkkhmfnnjaa
open Go.RowKit
set_option linter.unusedVariables false
set_option linter.unusedSimpArgs false
set_option maxRecDepth 20000
attribute [local go_sem ↓] Go.wp_at_zero Go.wp_at_succ
attribute [local go_sem] World.cell?_alloc_some frozen_alloc_some
open Go.Maps

/-! ### the four kinds of maps -/
theorem zGrp (w : World) : (zeroValue 4).run Try.prog w = .ok (.bool false) w := by kernel_rfl
noncomputable def grpK : MK IdP Bool where
  mt := 74
  kt := 26
  et := 4
  kv := idV
  kl := idK
  wf := wfI
  ev := .bool
  e0 := false
  cd b := .lit (.bool b)
  und := Try.underlying74
  law := idLaw
  key := keyOf_id
  isKey := idK_key
  inj := idK_inj
  evi h := by injection h
  cdi h := by simpa using h
  zero := zGrp
def optD (o : Option Nat) : DataW Unit := .lit (.int .i64 (match o with | some b => (b : Int) | none => -1))
theorem optD_inj {a b : Option Nat} (h : optD a = optD b) : a = b := by
  unfold optD at h
  simp only [DataW.lit.injEq, Lit.int.injEq, true_and] at h
  cases a <;> cases b <;> simp only at h <;> first | rfl | omega | skip
  rw [Int.ofNat.inj h]
theorem zKey (w : World) : (zeroValue 74).run Try.prog w = .ok (.map none) w := by kernel_rfl
noncomputable def keyK : MK ByteArray (Option Nat) where
  mt := 71
  kt := 9
  et := 74
  kv := .string
  kl s := .string s.data.toList
  wf s := s.size ≤ maxLen
  ev := .map
  e0 := none
  cd := optD
  und := Try.underlying71
  law := string_keyed Try.underlying9
  key h := Go.WideMaps.keyOf_string_mk Try.underlying9 h
  isKey _ := trivial
  inj _ _ h := by
    simp only [Lit.string.injEq] at h
    exact ByteArray.ext (Array.ext' h)
  evi h := by injection h
  cdi := optD_inj
  zero := zKey
noncomputable def cliK : MK Int (Option Nat) where
  mt := 72
  kt := 3
  et := 74
  kv := .int .i64
  kl x := .int .i64 x
  wf x := (Lit.int .i64 x).wf = true
  ev := .map
  e0 := none
  cd := optD
  und := Try.underlying72
  law := int_keyed Try.underlying3
  key h := keyOf_int_mk Try.underlying3 h
  isKey _ := trivial
  inj _ _ h := by simpa using h
  evi h := by injection h
  cdi := optD_inj
  zero := zKey
abbrev entV (e : CmdT × Int) : Value := .agg #[.int .i64 e.1.kind, .int .i64 e.1.client, .int .i64 e.1.seq, .string e.1.key, .string e.1.val, .int .i64 e.1.rev, .int .i64 e.2]
def entD (e : CmdT × Int) : DataW Unit := .agg [.lit (.int .i64 e.1.kind), .lit (.int .i64 e.1.client), .lit (.int .i64 e.1.seq), .lit (.string e.1.key.data.toList), .lit (.string e.1.val.data.toList), .lit (.int .i64 e.1.rev), .lit (.int .i64 e.2)]
def ent0 : CmdT × Int := (⟨0, 0, 0, ByteArray.empty, ByteArray.empty, 0⟩, 0)
theorem zEnt (w : World) : (zeroValue 78).run Try.prog w = .ok (entV ent0) w := by kernel_rfl
noncomputable def allK : MK IdP (CmdT × Int) where
  mt := 70
  kt := 26
  et := 78
  kv := idV
  kl := idK
  wf := wfI
  ev := entV
  e0 := ent0
  cd := entD
  und := Try.underlying70
  law := idLaw
  key := keyOf_id
  isKey := idK_key
  inj := idK_inj
  evi {a b} h := by
    obtain ⟨⟨a1, a2, a3, a4, a5, a6⟩, a7⟩ := a
    obtain ⟨⟨b1, b2, b3, b4, b5, b6⟩, b7⟩ := b
    simp only [entV, Value.agg.injEq, Array.mk.injEq, List.cons.injEq, Value.int.injEq, Value.string.injEq, true_and, and_true] at h
    obtain ⟨rfl, rfl, rfl, rfl, rfl, rfl, rfl⟩ := h
    rfl
  cdi {a b} h := by
    obtain ⟨⟨a1, a2, a3, a4, a5, a6⟩, a7⟩ := a
    obtain ⟨⟨b1, b2, b3, b4, b5, b6⟩, b7⟩ := b
    simp only [entD, DataW.agg.injEq, List.cons.injEq, DataW.lit.injEq, Lit.int.injEq, Lit.string.injEq, true_and, and_true] at h
    obtain ⟨rfl, rfl, rfl, h4, h5, rfl, rfl⟩ := h
    obtain rfl := ByteArray.ext (Array.ext' h4)
    obtain rfl := ByteArray.ext (Array.ext' h5)
    rfl
  zero := zEnt

abbrev pK (t : ByteArray × Nat) : ByteArray × Option Nat := (t.1, some t.2)
abbrev pC (t : Int × Nat) : Int × Option Nat := (t.1, some t.2)
abbrev pG (i : IdP) : IdP × Bool := (i, true)
abbrev pA (e : EntT) : IdP × (CmdT × Int) := (e.i, (e.c, e.s))
/-- All groups' blocks. -/
abbrev grps (bw : Nat) (ks : List (ByteArray × Nat)) (cs : List (Int × Nat)) : List Nat := bw :: (ks.map (·.2) ++ cs.map (·.2))
structure IxG (w : World) (F : Nat → Prop) (g ba bk bc bw : Nat) (y : List EntT) (ks : List (ByteArray × Nat)) (cs : List (Int × Nat)) (co : Nat → List IdP) : Prop where
  hd : Blk w g 76 #[.map (some ba), .map (some bk), .map (some bc), .map (some bw)]
  all : GAt allK w ba (y.map pA)
  keys : GAt keyK w bk (ks.map pK)
  clis : GAt cliK w bc (cs.map pC)
  grp : ∀ b ∈ grps bw ks cs, GAt grpK w b ((co b).map pG)
  nd : (ba :: bk :: bc :: grps bw ks cs).Nodup
  own : F g ∧ F ba ∧ F bk ∧ F bc ∧ ∀ b ∈ grps bw ks cs, F b
  lt : ∀ k, F k → k < w.heap.size
variable {w w' : World} {F F' : Nat → Prop} {g ba bk bc bw : Nat} {y : List EntT} {ks : List (ByteArray × Nat)} {cs : List (Int × Nat)} {co : Nat → List IdP}
theorem IxG.keep (h : IxG w F g ba bk bc bw y ks cs co) (hb : Below w.heap.size w w') : IxG w' F g ba bk bc bw y ks cs co :=
  ⟨h.hd.keep hb, h.all.keep hb, h.keys.keep hb, h.clis.keep hb, fun b hb' => (h.grp b hb').keep hb, h.nd, h.own, fun k hk => Nat.lt_of_lt_of_le (h.lt k hk) hb.size⟩
/-- Others' blocks turn. -/
theorem IxG.turn {P : Nat → Prop} (h : IxG w F g ba bk bc bw y ks cs co) (k : Turn P w w') (hP : ∀ i, F i → ¬ P i) : IxG w' F g ba bk bc bw y ks cs co :=
  ⟨k.blk h.hd (hP _ h.own.1), h.all.same (k.block _ h.all.lt (hP _ h.own.2.1)), h.keys.same (k.block _ h.keys.lt (hP _ h.own.2.2.1)), h.clis.same (k.block _ h.clis.lt (hP _ h.own.2.2.2.1)),
    fun b hb => (h.grp b hb).same (k.block _ (h.grp b hb).lt (hP _ (h.own.2.2.2.2 b hb))), h.nd, h.own, fun i hi => Nat.lt_of_lt_of_le (h.lt i hi) k.size⟩
theorem IxG.ne (h : IxG w F g ba bk bc bw y ks cs co) : ba ≠ bk ∧ ba ≠ bc ∧ bk ≠ bc ∧ (∀ b ∈ grps bw ks cs, b ≠ ba ∧ b ≠ bk ∧ b ≠ bc) ∧ (grps bw ks cs).Nodup := by
  obtain ⟨h1, h2⟩ := List.nodup_cons.1 h.nd
  obtain ⟨h3, h4⟩ := List.nodup_cons.1 h2
  obtain ⟨h5, h6⟩ := List.nodup_cons.1 h4
  refine ⟨fun e => h1 (by simp [e]), fun e => h1 (by simp [e]), fun e => h3 (by simp [e]), fun b hb => ⟨fun e => h1 ?_, fun e => h3 ?_, fun e => h5 (e ▸ hb)⟩, h6⟩
  · exact List.mem_cons_of_mem _ (List.mem_cons_of_mem _ (e ▸ hb))
  · exact List.mem_cons_of_mem _ (e ▸ hb)
theorem IxG.turnAll (h : IxG w F g ba bk bc bw y ks cs co) {y' : List EntT} (k : w.mapTurned w' ba) (hm : GAt allK w' ba (y'.map pA)) : IxG w' F g ba bk bc bw y' ks cs co := by
  have t := Turn.of_map k
  obtain ⟨n1, n2, n3, n4, n5⟩ := h.ne
  exact ⟨t.blk h.hd (fun e => h.all.ne_blk h.hd e.symm), hm, h.keys.same (t.block _ h.keys.lt (fun e => n1 e.symm)), h.clis.same (t.block _ h.clis.lt (fun e => n2 e.symm)),
    fun b hb => (h.grp b hb).same (t.block _ (h.grp b hb).lt (n4 b hb).1), h.nd, h.own, fun i hi => Nat.lt_of_lt_of_le (h.lt i hi) t.size⟩
theorem IxG.turnGrp (h : IxG w F g ba bk bc bw y ks cs co) {b : Nat} {l : List IdP} (hb : b ∈ grps bw ks cs) (k : w.mapTurned w' b) (hm : GAt grpK w' b (l.map pG)) : IxG w' F g ba bk bc bw y ks cs (upd co b l) := by
  have t := Turn.of_map k
  obtain ⟨n1, n2, n3, n4, n5⟩ := h.ne
  obtain ⟨m1, m2, m3⟩ := n4 b hb
  refine ⟨t.blk h.hd (fun e => (h.grp b hb).ne_blk h.hd e.symm), h.all.same (t.block _ h.all.lt (fun e => m1 e.symm)), h.keys.same (t.block _ h.keys.lt (fun e => m2 e.symm)), h.clis.same (t.block _ h.clis.lt (fun e => m3 e.symm)),
    fun x hx => ?_, h.nd, h.own, fun i hi => Nat.lt_of_lt_of_le (h.lt i hi) t.size⟩
  by_cases e : x = b
  · rw [e, upd_same]; exact hm
  · rw [upd_ne e]
    exact (h.grp x hx).same (t.block _ (h.grp x hx).lt e)
/-- A new group is laid, and then its key: both at once. -/
theorem IxG.newKey (h : IxG w F g ba bk bc bw y ks cs co) {k : ByteArray} {n : Nat} (t : Turn (fun i => i = bk) w w') (hn : w.heap.size ≤ n) (hn2 : n < w'.heap.size) (hk : GAt keyK w' bk ((ks ++ [(k, n)]).map pK)) (hg : GAt grpK w' n []) :
    IxG w' (fun i => F i ∨ i = n) g ba bk bc bw y (ks ++ [(k, n)]) cs (upd co n []) := by
  obtain ⟨n1, n2, n3, n4, n5⟩ := h.ne
  have hlt : ∀ b ∈ grps bw ks cs, b < w.heap.size := fun b hb => (h.grp b hb).lt
  have hnot : n ∉ ba :: bk :: bc :: grps bw ks cs := fun hm => by
    rcases List.mem_cons.1 hm with e | hm
    · have := h.all.lt; omega
    · rcases List.mem_cons.1 hm with e | hm
      · have := h.keys.lt; omega
      · rcases List.mem_cons.1 hm with e | hm
        · have := h.clis.lt; omega
        · have := hlt _ hm; omega
  have hp : (grps bw (ks ++ [(k, n)]) cs).Perm (n :: grps bw ks cs) := by
    show (bw :: ((ks ++ [(k, n)]).map (·.2) ++ cs.map (·.2))).Perm _
    rw [List.map_append]
    simp only [List.map_cons, List.map_nil, List.append_assoc, List.singleton_append]
    exact ((List.perm_middle (a := n)).cons bw).trans (List.Perm.swap _ _ _)
  refine ⟨t.blk h.hd (fun e => h.keys.ne_blk h.hd e.symm), h.all.same (t.block _ h.all.lt n1), hk, h.clis.same (t.block _ h.clis.lt (fun e => n3 e.symm)), fun b hb => ?_, ?_, ⟨.inl h.own.1, .inl h.own.2.1, .inl h.own.2.2.1, .inl h.own.2.2.2.1, fun b hb => ?_⟩, fun i hi => ?_⟩
  · by_cases e : b = n
    · rw [e, upd_same]; exact hg
    · rw [upd_ne e]
      rcases List.mem_cons.1 (hp.mem_iff.1 hb) with e2 | hb
      · exact absurd e2 e
      · exact (h.grp b hb).same (t.block _ (hlt b hb) (n4 b hb).2.1)
  · have hp2 : (ba :: bk :: bc :: grps bw (ks ++ [(k, n)]) cs).Perm (n :: (ba :: bk :: bc :: grps bw ks cs)) :=
      (((hp.cons bc).trans (List.Perm.swap _ _ _)).cons bk |>.trans (List.Perm.swap _ _ _)).cons ba |>.trans (List.Perm.swap _ _ _)
    rw [hp2.nodup_iff]
    exact List.nodup_cons.2 ⟨hnot, h.nd⟩
  · rcases List.mem_cons.1 (hp.mem_iff.1 hb) with e2 | hb
    · exact .inr e2
    · exact .inl (h.own.2.2.2.2 b hb)
  · rcases hi with hi | rfl
    · exact Nat.lt_of_lt_of_le (h.lt i hi) t.size
    · exact hn2
theorem IxG.newCli (h : IxG w F g ba bk bc bw y ks cs co) {k : Int} {n : Nat} (t : Turn (fun i => i = bc) w w') (hn : w.heap.size ≤ n) (hn2 : n < w'.heap.size) (hk : GAt cliK w' bc ((cs ++ [(k, n)]).map pC)) (hg : GAt grpK w' n []) :
    IxG w' (fun i => F i ∨ i = n) g ba bk bc bw y ks (cs ++ [(k, n)]) (upd co n []) := by
  obtain ⟨n1, n2, n3, n4, n5⟩ := h.ne
  have hlt : ∀ b ∈ grps bw ks cs, b < w.heap.size := fun b hb => (h.grp b hb).lt
  have hnot : n ∉ ba :: bk :: bc :: grps bw ks cs := fun hm => by
    rcases List.mem_cons.1 hm with e | hm
    · have := h.all.lt; omega
    · rcases List.mem_cons.1 hm with e | hm
      · have := h.keys.lt; omega
      · rcases List.mem_cons.1 hm with e | hm
        · have := h.clis.lt; omega
        · have := hlt _ hm; omega
  have hp : (grps bw ks (cs ++ [(k, n)])).Perm (n :: grps bw ks cs) := by
    show (bw :: (ks.map (·.2) ++ (cs ++ [(k, n)]).map (·.2))).Perm _
    rw [List.map_append, ← List.append_assoc]
    exact ((List.perm_append_singleton n _).cons bw).trans (List.Perm.swap _ _ _)
  refine ⟨t.blk h.hd (fun e => h.clis.ne_blk h.hd e.symm), h.all.same (t.block _ h.all.lt n2), h.keys.same (t.block _ h.keys.lt n3), hk, fun b hb => ?_, ?_, ⟨.inl h.own.1, .inl h.own.2.1, .inl h.own.2.2.1, .inl h.own.2.2.2.1, fun b hb => ?_⟩, fun i hi => ?_⟩
  · by_cases e : b = n
    · rw [e, upd_same]; exact hg
    · rw [upd_ne e]
      rcases List.mem_cons.1 (hp.mem_iff.1 hb) with e2 | hb
      · exact absurd e2 e
      · exact (h.grp b hb).same (t.block _ (hlt b hb) (n4 b hb).2.2)
  · have hp2 : (ba :: bk :: bc :: grps bw ks (cs ++ [(k, n)])).Perm (n :: (ba :: bk :: bc :: grps bw ks cs)) :=
      (((hp.cons bc).trans (List.Perm.swap _ _ _)).cons bk |>.trans (List.Perm.swap _ _ _)).cons ba |>.trans (List.Perm.swap _ _ _)
    rw [hp2.nodup_iff]
    exact List.nodup_cons.2 ⟨hnot, h.nd⟩
  · rcases List.mem_cons.1 (hp.mem_iff.1 hb) with e2 | hb
    · exact .inr e2
    · exact .inl (h.own.2.2.2.2 b hb)
  · rcases hi with hi | rfl
    · exact Nat.lt_of_lt_of_le (h.lt i hi) t.size
    · exact hn2
/-- An entry's command and number are numbers and texts of the machine. -/
def EntOk (e : EntT) : Prop := wfI e.i ∧ e.c.Ok ∧ (Lit.int .i64 e.s).wf = true
/-- An index of the call's own, of at most n entries and groups. -/
def IxAt (w : World) (F : Nat → Prop) (g : Nat) (y : List EntT) (n : Nat) : Prop :=
  ∃ ba bk bc bw ks cs co, IxG w F g ba bk bc bw y ks cs co ∧ InvX y ks cs bw co ∧ (∀ e ∈ y, EntOk e) ∧ y.length ≤ n ∧ ks.length ≤ n ∧ cs.length ≤ n
theorem IxAt.keep {n : Nat} (h : IxAt w F g y n) (hb : Below w.heap.size w w') : IxAt w' F g y n := by
  obtain ⟨ba, bk, bc, bw, ks, cs, co, h1, h2⟩ := h
  exact ⟨ba, bk, bc, bw, ks, cs, co, h1.keep hb, h2⟩
theorem IxAt.turn {n : Nat} {P : Nat → Prop} (h : IxAt w F g y n) (k : Turn P w w') (hP : ∀ i, F i → ¬ P i) : IxAt w' F g y n := by
  obtain ⟨ba, bk, bc, bw, ks, cs, co, h1, h2⟩ := h
  exact ⟨ba, bk, bc, bw, ks, cs, co, h1.turn k hP, h2⟩
theorem IxAt.lt {n : Nat} (h : IxAt w F g y n) : ∀ k, F k → k < w.heap.size := by
  obtain ⟨ba, bk, bc, bw, ks, cs, co, h1, h2⟩ := h
  exact h1.lt
/-- What a deed leaves: the index, and nothing else turned. -/
def Ixs (w : World) (F : Nat → Prop) (g : Nat) (y : List EntT) (n : Nat) (e : Ending) (w' : World) : Prop :=
  e = .returned (.tuple #[]) ∧ ∃ F', IxAt w' F' g y n ∧ (∀ k, F' k → F k ∨ w.heap.size ≤ k) ∧ Turn F w w'
theorem all_map_out (y : List EntT) (i : IdP) : outM (y.map pA) i = (dropE y i).map pA := by
  unfold outM dropE
  rw [List.filter_map]
  rfl
theorem grp_map_out (l : List IdP) (i : IdP) : outM (l.map pG) i = (outI l i).map pG := by
  unfold outM outI
  rw [List.filter_map]
  rfl
theorem grp_put {m : MK IdP Bool} {b : Nat} {l l' : List IdP} {i : IdP} (h : GAt m w b (outM (l.map pG) i ++ [(i, true)])) (hn : l'.Nodup) (hl : ∀ x, x ∈ l' ↔ x ∈ l ∨ x = i) (hnd : l.Nodup) : GAt m w b (l'.map pG) := by
  have e : outM (l.map pG) i ++ [(i, true)] = (outI l i ++ [i]).map pG := by rw [grp_map_out, List.map_append]; rfl
  rw [e] at h
  have h1 : (outI l i ++ [i]).Nodup := by
    rw [List.nodup_append]
    exact ⟨List.Pairwise.filter _ hnd, by simp, fun a ha b hb => by simp at hb; rw [hb]; exact (mem_outI.1 ha).2⟩
  have hm : ∀ x, x ∈ l' ↔ x ∈ outI l i ++ [i] := fun x => by
    rw [hl, List.mem_append, mem_outI]
    by_cases e : x = i <;> simp [e]
  have hp : l'.Perm (outI l i ++ [i]) := (List.perm_ext_iff_of_nodup hn h1).2 hm
  refine h.other (List.pairwise_map.2 (hn.imp fun {a b} hab e => hab e)) (by simp [hp.length_eq]) fun t => ?_
  simp only [List.mem_map]
  exact ⟨fun ⟨x, hx, e⟩ => ⟨x, (hm x).1 hx, e⟩, fun ⟨x, hx, e⟩ => ⟨x, (hm x).2 hx, e⟩⟩
end Go.Proofs.Ytpdfbkkhmfnnjaa

namespace Go.Proofs.Ytpdfbkkhmfnnjaa
open Go.RowKit
set_option linter.unusedVariables false
set_option linter.unusedSimpArgs false
set_option maxRecDepth 20000
attribute [local go_sem ↓] Go.wp_at_zero Go.wp_at_succ
attribute [local go_sem] World.cell?_alloc_some frozen_alloc_some
open Go.Maps

set_option maxHeartbeats 1000000 in
theorem ixnew_any (w : World) : Calls Try.prog 10 #[] w
    (fun e w' => e = .returned (.pointer (some ⟨w.heap.size + 1 + 1 + 1 + 1, 0, none⟩)) ∧ IxAt w' (fun k => w.heap.size ≤ k ∧ k < w.heap.size + 5) (w.heap.size + 4) [] 0 ∧ Below w.heap.size w w') := by
  have hmm := @run_makeMap Try.prog
  go_enter Try.func10, Try.ntmps10
  go_wp2_with fail
  go_ret
  have h1 := (((GAt.madeAt allK (w := w) (g := w.heap.size) rfl).keep (below_one (.map #[] 0))).keep (below_one (.map #[] 0))).keep (below_one (.map #[] 0))
  have h2 := ((GAt.madeAt keyK (w := w.alloc (.map #[] 0)) (g := w.heap.size + 1) (by simp)).keep (below_one (.map #[] 0))).keep (below_one (.map #[] 0))
  have h3 := (GAt.madeAt cliK (w := (w.alloc (.map #[] 0)).alloc (.map #[] 0)) (g := w.heap.size + 2) (by simp)).keep (below_one (.map #[] 0))
  have h4 := GAt.madeAt grpK (w := ((w.alloc (.map #[] 0)).alloc (.map #[] 0)).alloc (.map #[] 0)) (g := w.heap.size + 3) (by simp)
  refine ⟨by simp, ⟨w.heap.size, w.heap.size + 1, w.heap.size + 2, w.heap.size + 3, [], [], fun _ => [], ⟨?_, h1.keep (below_one _), h2.keep (below_one _), h3.keep (below_one _), fun b hb => ?_, ?_, ?_, fun k hk => ?_⟩, InvX.empty _ _ fun _ => rfl, (fun e he => by cases he), by simp, by simp, by simp⟩, by ((repeat' first | with_reducible exact Below.refl _ _ | with_reducible assumption | with_reducible refine Below.alloc ?_ ?_ _ | with_reducible refine Below.setCell ?_ ?_ _ | with_reducible apply Below.drew | with_reducible apply below_drewN | with_reducible refine below_call ?_ (by with_reducible assumption) ?_) <;> (first | omega | (simp; done) | (simp; omega) | (simp at *; omega)))⟩
  · exact blk_newAt (by simp)
  · simp at hb
    subst hb
    exact h4.keep (below_one _)
  · simp
  · simp
  · simp; omega
set_option maxHeartbeats 400000 in
theorem ixlen_any (F : Nat → Prop) (g n : Nat) (y : List EntT) (w : World) (h : IxAt w F g y n) : Calls Try.prog 14 #[.pointer (some ⟨g, 0, none⟩)] w (Gives w (.int .i64 (y.length : Nat))) := by
  obtain ⟨ba, bk, bc, bw, ks, cs, co, h1, h2, h3⟩ := h
  have pc := h1.hd.cell 0
  have hl := fun ty => h1.all.size_ ty
  simp only [List.length_map, allK] at hl
  clear h1 h2 h3
  go_enter Try.func14, Try.ntmps14
  go_wp2_with fail
  go_ret
  exact ⟨rfl, by ((repeat' first | with_reducible exact Below.refl _ _ | with_reducible assumption | with_reducible refine Below.alloc ?_ ?_ _ | with_reducible refine Below.setCell ?_ ?_ _ | with_reducible apply Below.drew | with_reducible apply below_drewN | with_reducible refine below_call ?_ (by with_reducible assumption) ?_) <;> (first | omega | (simp; done) | (simp; omega) | (simp at *; omega)))⟩
set_option maxHeartbeats 1000000 in
theorem iswide_any (k c q : Int) (y x : ByteArray) (r : Int) (w : World) : Calls Try.prog 34 #[.agg #[.int .i64 k, .int .i64 c, .int .i64 q, .string y, .string x, .int .i64 r]] w (Gives w (.bool (decide (k = 5) || decide (k = 6)))) := by
  by_cases h5 : k = 5
  · subst h5
    go_enter Try.func34, Try.ntmps34
    go_wp2_with fail
    go_ret
    exact ⟨by simp, by ((repeat' first | with_reducible exact Below.refl _ _ | with_reducible assumption | with_reducible refine Below.alloc ?_ ?_ _ | with_reducible refine Below.setCell ?_ ?_ _ | with_reducible apply Below.drew | with_reducible apply below_drewN | with_reducible refine below_call ?_ (by with_reducible assumption) ?_) <;> (first | omega | (simp; done) | (simp; omega) | (simp at *; omega)))⟩
  · by_cases h6 : k = 6
    · subst h6
      go_enter Try.func34, Try.ntmps34
      go_wp2_with fail
      go_ret
      exact ⟨by simp, by ((repeat' first | with_reducible exact Below.refl _ _ | with_reducible assumption | with_reducible refine Below.alloc ?_ ?_ _ | with_reducible refine Below.setCell ?_ ?_ _ | with_reducible apply Below.drew | with_reducible apply below_drewN | with_reducible refine below_call ?_ (by with_reducible assumption) ?_) <;> (first | omega | (simp; done) | (simp; omega) | (simp at *; omega)))⟩
    · go_enter Try.func34, Try.ntmps34
      go_wp2_with fail
      go_ret
      exact ⟨by simp [h5, h6], by ((repeat' first | with_reducible exact Below.refl _ _ | with_reducible assumption | with_reducible refine Below.alloc ?_ ?_ _ | with_reducible refine Below.setCell ?_ ?_ _ | with_reducible apply Below.drew | with_reducible apply below_drewN | with_reducible refine below_call ?_ (by with_reducible assumption) ?_) <;> (first | omega | (simp; done) | (simp; omega) | (simp at *; omega)))⟩
end Go.Proofs.Ytpdfbkkhmfnnjaa

namespace Go.Proofs.Ytpdfbkkhmfnnjaa
open Go.RowKit
set_option linter.unusedVariables false
set_option linter.unusedSimpArgs false
set_option maxRecDepth 20000
attribute [local go_sem ↓] Go.wp_at_zero Go.wp_at_succ
attribute [local go_sem] World.cell?_alloc_some frozen_alloc_some
open Go.Maps

theorem blk_turned {κ ε : Type} {m : MK κ ε} {w w' : World} {b : Nat} {x : List (κ × ε)} {e : Nat} {t : TypeId} {cs : Array Value} (h : Blk w e t cs) (G : GAt m w b x) (k : w.mapTurned w' b) : Blk w' e t cs := (Turn.of_map k).blk h fun e2 => G.ne_blk h e2.symm
structure DS (F : Nat → Prop) (g ba bk bc bw : Nat) (y : List EntT) (ks : List (ByteArray × Nat)) (cs : List (Int × Nat)) (co : Nat → List IdP) (ib : Nat) (i1 i2 : Int) (eb : Nat) (c : CmdT) (s : Int) (W : World) : Prop where
  P : IxG W F g ba bk bc bw y ks cs co
  I : Blk W ib 26 #[.int .i64 i1, .int .i64 i2]
  E : Blk W eb 78 #[.int .i64 c.kind, .int .i64 c.client, .int .i64 c.seq, .string c.key, .string c.val, .int .i64 c.rev, .int .i64 s]
theorem DS.keep {F : Nat → Prop} {g ba bk bc bw : Nat} {y : List EntT} {ks : List (ByteArray × Nat)} {cs : List (Int × Nat)} {co : Nat → List IdP} {ib : Nat} {i1 i2 : Int} {eb : Nat} {c : CmdT} {s : Int} {W W' : World} (h : DS F g ba bk bc bw y ks cs co ib i1 i2 eb c s W) (hb : Below W.heap.size W W') :
    DS F g ba bk bc bw y ks cs co ib i1 i2 eb c s W' := ⟨h.P.keep hb, h.I.keep hb, h.E.keep hb⟩
abbrev SD1 (g : Nat) (cs : Array Value) (h : Nat) (ds : Array Value) (b : Nat) (i1 i2 : Int) (v : Value) (k : Bool) (wx : World) : Prop := (∀ i, wx.cell? ⟨g, i, none⟩ = cs[i]?) ∧ (∀ i, wx.cell? ⟨h, i, none⟩ = ds[i]?) ∧ (Instr.lookup 70 (.map (some b)) (.agg #[.int .i64 i1, .int .i64 i2]) true).run Try.prog wx = .ok (.tuple #[v, .bool k]) wx
abbrev SD2 (g : Nat) (cs : Array Value) (h : Nat) (ds : Array Value) (wx : World) : Prop := (∀ i, wx.cell? ⟨g, i, none⟩ = cs[i]?) ∧ ∀ i, wx.cell? ⟨h, i, none⟩ = ds[i]?
abbrev SD3 (g : Nat) (cs : Array Value) (h : Nat) (ds : Array Value) (e : Nat) (es : Array Value) (b : Nat) (k : ByteArray) (v : Option Nat) (wx : World) : Prop := (∀ i, wx.cell? ⟨g, i, none⟩ = cs[i]?) ∧ (∀ i, wx.cell? ⟨h, i, none⟩ = ds[i]?) ∧ (∀ i, wx.cell? ⟨e, i, none⟩ = es[i]?) ∧ (Instr.lookup 71 (.map (some b)) (.string k) false).run Try.prog wx = .ok (.map v) wx
abbrev SD4 (g : Nat) (cs : Array Value) (h : Nat) (ds : Array Value) (e : Nat) (es : Array Value) (b : Nat) (k : Int) (v : Option Nat) (wx : World) : Prop := (∀ i, wx.cell? ⟨g, i, none⟩ = cs[i]?) ∧ (∀ i, wx.cell? ⟨h, i, none⟩ = ds[i]?) ∧ (∀ i, wx.cell? ⟨e, i, none⟩ = es[i]?) ∧ (Instr.lookup 72 (.map (some b)) (.int .i64 k) false).run Try.prog wx = .ok (.map v) wx
theorem hasM_pA {y : List EntT} {i : IdP} (h : hasM (y.map pA) i = true) : ∃ e ∈ y, e.i = i := by
  obtain ⟨t, ht, e⟩ := hasM_iff.1 h
  obtain ⟨x, hx, rfl⟩ := List.mem_map.1 ht
  exact ⟨x, hx, e⟩
theorem hasM_pA_no {y : List EntT} {i : IdP} (h : hasM (y.map pA) i = false) : ∀ e ∈ y, e.i ≠ i := fun e he => hasM_no h _ (List.mem_map.2 ⟨e, he, rfl⟩)
set_option maxHeartbeats 4000000 in
theorem ixdrop_any (F : Nat → Prop) (g n : Nat) (y : List EntT) (i1 i2 : Int) (w : World) (h : IxAt w F g y n) (hi : wfI (i1, i2)) : Calls Try.prog 13 #[.pointer (some ⟨g, 0, none⟩), .agg #[.int .i64 i1, .int .i64 i2]] w (Ixs w F g (dropE y (i1, i2)) n) := by
  obtain ⟨ba, bk, bc, bw, ks, cs, co, hG, hV, hE⟩ := h
  have hk := below_one (w := w) (.cells #[.int .i64 i1, .int .i64 i2] 26)
  have I0 := Blk.new w 26 #[.int .i64 i1, .int .i64 i2]
  have P := hG.keep hk
  have KT := Lib.hid (Turn.of_below (F := F) hk)
  have hlk := fun W (h : GAt allK W ba (y.map pA)) => h.look_ok hi
  obtain ⟨k, hkk⟩ : ∃ k, hasM (y.map pA) (i1, i2) = k := ⟨_, rfl⟩
  obtain ⟨⟨c, s⟩, hcs⟩ : ∃ e, getM allK.e0 (y.map pA) (i1, i2) = e := ⟨_, rfl⟩
  simp only [hkk, hcs] at hlk
  have hnd := hG.all.nd
  have HC := Lib.hid (show k = true → ∃ e ∈ y, e.i = (i1, i2) ∧ e.c = c ∧ e.s = s from fun hk1 => by
    rw [hk1] at hkk
    obtain ⟨e, he, hei⟩ := hasM_pA hkk
    have h1 := getM_hit (z := allK.e0) hnd (List.mem_map.2 ⟨e, he, rfl⟩ : pA e ∈ y.map pA)
    simp only [hei] at h1
    rw [hcs] at h1
    simp only [Prod.mk.injEq] at h1
    exact ⟨e, he, hei, h1.1.symm, h1.2.symm⟩)
  have HN := Lib.hid (show k = false → dropE y (i1, i2) = y from fun hk1 => dropE_none (hasM_pA_no (by rw [hkk, hk1])))
  have Hlk := Lib.hid hlk
  have HV := Lib.hid hV
  have HE := Lib.hid hE
  have Hwf := Lib.hid hi
  clear hlk hkk hcs hnd hG hV hE hi
  go_enter Try.func13, Try.ntmps13
  go_upto_region 1 with fail
  replace P := P.keep (Below.refl _ _).drew
  replace I0 := Blk.keep I0 (Below.refl _ _).drew
  replace KT := Lib.hid (KT.out.trans (Turn.of_below (F := F) (Below.refl _ _).drew) (fun i hi => .inl hi))
  clear hk
  (refine wp_region_held_drew (S := (SD1 g #[.map (some ba), .map (some bk), .map (some bc), .map (some bw)] w.heap.size #[.int .i64 i1, .int .i64 i2] ba i1 i2 (.agg #[.int .i64 c.kind, .int .i64 c.client, .int .i64 c.seq, .string c.key, .string c.val, .int .i64 c.rev, .int .i64 s]) k)) (by kernel_rfl) ?_ (fun hHeld => ?_); (· exact ⟨P.hd.cell, I0.cell, Hlk.out _ P.all⟩))
  (refine take_op (i := 0) (v := ?_) rfl (by kernel_rfl) (by kernel_rfl) (by kernel_rfl) (fun _ _ _ h => h) (by rfl) ?_ hHeld ?_; rotate_left; (· (intro wS hSw; (try dsimp only at hSw); go_simp; first | done | with_reducible rfl)); simp only [Act.put, List.setIfInBounds_toArray, List.set_cons_zero, List.set_cons_succ]); (refine take_op (i := 1) (v := ?_) rfl (by kernel_rfl) (by kernel_rfl) (by kernel_rfl) (fun _ _ _ h => h) (by rfl) ?_ hHeld ?_; rotate_left; (· (intro wS hSw; (try dsimp only at hSw); go_simp; first | done | with_reducible rfl)); simp only [Act.put, List.setIfInBounds_toArray, List.set_cons_zero, List.set_cons_succ]); (refine take_op (i := 2) (v := ?_) rfl (by kernel_rfl) (by kernel_rfl) (by kernel_rfl) (fun _ _ _ h => h) (by rfl) ?_ hHeld ?_; rotate_left; (· (intro wS hSw; (try dsimp only at hSw); go_simp; first | done | with_reducible rfl)); simp only [Act.put, List.setIfInBounds_toArray, List.set_cons_zero, List.set_cons_succ]); (refine take_op (i := 3) (v := ?_) rfl (by kernel_rfl) (by kernel_rfl) (by kernel_rfl) (fun _ _ _ h => h) (by rfl) ?_ hHeld ?_; rotate_left; (· (intro wS hSw; (try dsimp only at hSw); go_simp; first | done | with_reducible rfl)); simp only [Act.put, List.setIfInBounds_toArray, List.set_cons_zero, List.set_cons_succ]); (refine take_op (i := 4) (v := ?_) rfl (by kernel_rfl) (by kernel_rfl) (by kernel_rfl) (fun _ _ _ h => h) (by rfl) ?_ hHeld ?_; rotate_left; (· (intro wS hSw; (try dsimp only at hSw); go_simp; first | done | with_reducible rfl)); simp only [Act.put, List.setIfInBounds_toArray, List.set_cons_zero, List.set_cons_succ]); (refine take_op (i := 5) (v := ?_) rfl (by kernel_rfl) (by kernel_rfl) (by kernel_rfl) (fun _ _ _ h => h) (by rfl) ?_ hHeld ?_; rotate_left; (· (intro wS hSw; (try dsimp only at hSw); go_simp; first | done | with_reducible rfl)); simp only [Act.put, List.setIfInBounds_toArray, List.set_cons_zero, List.set_cons_succ]); (refine take_op (i := 6) (v := ?_) rfl (by kernel_rfl) (by kernel_rfl) (by kernel_rfl) (fun _ _ _ h => h) (by rfl) ?_ hHeld ?_; rotate_left; (· (intro wS hSw; (try dsimp only at hSw); go_simp; first | done | with_reducible rfl)); simp only [Act.put, List.setIfInBounds_toArray, List.set_cons_zero, List.set_cons_succ]); (refine take_op (i := 7) (v := ?_) rfl (by kernel_rfl) (by kernel_rfl) (by kernel_rfl) (fun _ _ _ h => h) (by rfl) ?_ hHeld ?_; rotate_left; (· (intro wS hSw; (try dsimp only at hSw); go_simp; first | done | with_reducible rfl)); simp only [Act.put, List.setIfInBounds_toArray, List.set_cons_zero, List.set_cons_succ]); (refine take_op (i := 8) (v := ?_) rfl (by kernel_rfl) (by kernel_rfl) (by kernel_rfl) (fun _ _ _ h => h) (by rfl) ?_ hHeld ?_; rotate_left; (· (intro wS hSw; (try dsimp only at hSw); go_simp; first | done | with_reducible rfl)); simp only [Act.put, List.setIfInBounds_toArray, List.set_cons_zero, List.set_cons_succ])
  revert hHeld KT I0 P
  generalize World.drew _ = wd
  intro P I0 KT hHeld
  have ha := below_one (w := wd) (.cells #[.int .i64 0, .int .i64 0, .int .i64 0, .string ByteArray.empty, .string ByteArray.empty, .int .i64 0, .int .i64 0] 78)
  (refine call_op (i := 9) rfl (by kernel_rfl) (by rfl) (fun K hK => ?_); go_simp; skip; refine hK.out _ _ ⟨(P.keep ha).hd.cell, (I0.keep ha).cell, Hlk.out _ (P.keep ha).all⟩ (fun hHeld2 => ?_); clear hK K hHeld; have hHeld := hHeld2; clear hHeld2; (try simp only [Act.put, List.setIfInBounds_toArray, List.set_cons_zero, List.set_cons_succ]))
  have hb := below_one (w := wd) (.cells #[.int .i64 c.kind, .int .i64 c.client, .int .i64 c.seq, .string c.key, .string c.val, .int .i64 c.rev, .int .i64 s] 78)
  have Q : DS F g ba bk bc bw y ks cs co w.heap.size i1 i2 wd.heap.size c s (wd.alloc (.cells #[.int .i64 c.kind, .int .i64 c.client, .int .i64 c.seq, .string c.key, .string c.val, .int .i64 c.rev, .int .i64 s] 78)) := ⟨P.keep hb, I0.keep hb, Blk.new _ _ _⟩
  have KQ := Lib.hid (KT.out.trans (Turn.of_below (F := F) hb) (fun i hi => .inl hi))
  (refine call_op (i := 10) rfl (by kernel_rfl) (by rfl) (fun K hK => ?_); go_simp; skip; refine hK.out _ _ ⟨Q.P.hd.cell, Q.I.cell, Hlk.out _ Q.P.all⟩ (fun hHeld2 => ?_); clear hK K hHeld; have hHeld := hHeld2; clear hHeld2; (try simp only [Act.put, List.setIfInBounds_toArray, List.set_cons_zero, List.set_cons_succ]))
  (refine take_op (i := 11) (v := ?_) rfl (by kernel_rfl) (by kernel_rfl) (by kernel_rfl) (fun _ _ _ h => h) (by rfl) ?_ hHeld ?_; rotate_left; (· (intro wS hSw; (try dsimp only at hSw); go_simp; first | done | with_reducible rfl)); simp only [Act.put, List.setIfInBounds_toArray, List.set_cons_zero, List.set_cons_succ])
  (refine wpAnyH_done (by kernel_rfl) ?_ _)
  clear hHeld ha hb P I0 KT Hlk
  revert Q KQ
  generalize wd.heap.size = eb
  generalize World.alloc _ _ = wd
  intro Q KT
  cases k
  · have hN := HN.out rfl
    go_wp2_with fail
    go_end0
    exact ⟨rfl, F, ⟨_, _, _, _, _, _, _, Q.P, HV.out, HE.out⟩, fun i hi => .inl hi, KT.out⟩
  · clear HN
    obtain ⟨⟨z, c', s'⟩, he, h1, h2, h3⟩ := HC.out rfl
    simp only at h1 h2 h3
    replace h2 := h2.symm
    replace h3 := h3.symm
    subst h1 h2 h3
    obtain ⟨kb, hkb⟩ := HV.out.kall _ he
    obtain ⟨cb, hcb⟩ := HV.out.call _ he
    obtain ⟨a1, a2, a3, a4, a5⟩ := HV.out.apart
    have hb1 := a1 _ hkb
    have hb2 := a2 _ hcb
    have hb3 := a3 _ hkb _ hcb
    simp only at hkb hcb hb1 hb2 hb3
    clear a1 a2 a3 a4 a5
    have mk : kb ∈ grps bw ks cs := List.mem_cons_of_mem _ (List.mem_append_left _ (List.mem_map.2 ⟨_, hkb, rfl⟩))
    have mc : cb ∈ grps bw ks cs := List.mem_cons_of_mem _ (List.mem_append_right _ (List.mem_map.2 ⟨_, hcb, rfl⟩))
    have mw : bw ∈ grps bw ks cs := List.mem_cons_self ..
    have HVd := Lib.hid (HV.out.drop he hkb hcb)
    have hok := HE.out.1 _ he
    have Hky := Lib.hid (show ∀ W, GAt keyK W bk (ks.map pK) → (Instr.lookup 71 (.map (some bk)) (.string c.key) false).run Try.prog W = .ok (.map (some kb)) W from fun W h => by
      have h1 := h.look (s := c.key) hok.2.1.key
      have h2 := getM_hit (z := keyK.e0) h.nd (List.mem_map.2 ⟨_, hkb, rfl⟩ : pK (c.key, kb) ∈ ks.map pK)
      simp only at h2
      rw [h2] at h1
      exact h1)
    have Hcl := Lib.hid (show ∀ W, GAt cliK W bc (cs.map pC) → (Instr.lookup 72 (.map (some bc)) (.int .i64 c.client) false).run Try.prog W = .ok (.map (some cb)) W from fun W h => by
      have h1 := h.look (s := c.client) hok.2.1.client
      have h2 := getM_hit (z := cliK.e0) h.nd (List.mem_map.2 ⟨_, hcb, rfl⟩ : pC (c.client, cb) ∈ cs.map pC)
      simp only at h2
      rw [h2] at h1
      exact h1)
    clear HC hok
    go_upto_region 3 with fail
    replace Q := Q.keep (Below.refl _ _).drew
    replace KT := Lib.hid (KT.out.trans (Turn.of_below (F := F) (Below.refl _ _).drew) (fun i hi => .inl hi))
    (refine wp_region_held_drew (S := (SD2 g #[.map (some ba), .map (some bk), .map (some bc), .map (some bw)] w.heap.size #[.int .i64 i1, .int .i64 i2])) (by kernel_rfl) ?_ (fun hHeld => ?_); (· exact ⟨Q.P.hd.cell, Q.I.cell⟩))
    (refine take_op (i := 0) (v := ?_) rfl (by kernel_rfl) (by kernel_rfl) (by kernel_rfl) (fun _ _ _ h => h) (by rfl) ?_ hHeld ?_; rotate_left; (· (intro wS hSw; (try dsimp only at hSw); go_simp; first | done | with_reducible rfl)); simp only [Act.put, List.setIfInBounds_toArray, List.set_cons_zero, List.set_cons_succ]); (refine take_op (i := 1) (v := ?_) rfl (by kernel_rfl) (by kernel_rfl) (by kernel_rfl) (fun _ _ _ h => h) (by rfl) ?_ hHeld ?_; rotate_left; (· (intro wS hSw; (try dsimp only at hSw); go_simp; first | done | with_reducible rfl)); simp only [Act.put, List.setIfInBounds_toArray, List.set_cons_zero, List.set_cons_succ]); (refine take_op (i := 2) (v := ?_) rfl (by kernel_rfl) (by kernel_rfl) (by kernel_rfl) (fun _ _ _ h => h) (by rfl) ?_ hHeld ?_; rotate_left; (· (intro wS hSw; (try dsimp only at hSw); go_simp; first | done | with_reducible rfl)); simp only [Act.put, List.setIfInBounds_toArray, List.set_cons_zero, List.set_cons_succ]); (refine take_op (i := 3) (v := ?_) rfl (by kernel_rfl) (by kernel_rfl) (by kernel_rfl) (fun _ _ _ h => h) (by rfl) ?_ hHeld ?_; rotate_left; (· (intro wS hSw; (try dsimp only at hSw); go_simp; first | done | with_reducible rfl)); simp only [Act.put, List.setIfInBounds_toArray, List.set_cons_zero, List.set_cons_succ]); (refine take_op (i := 4) (v := ?_) rfl (by kernel_rfl) (by kernel_rfl) (by kernel_rfl) (fun _ _ _ h => h) (by rfl) ?_ hHeld ?_; rotate_left; (· (intro wS hSw; (try dsimp only at hSw); go_simp; first | done | with_reducible rfl)); simp only [Act.put, List.setIfInBounds_toArray, List.set_cons_zero, List.set_cons_succ])
    obtain ⟨w3, hrun, hm3, ht3⟩ := Q.P.all.drop Hwf.out 0
    rw [all_map_out] at hm3
    simp only [allK] at hrun
    have Q3 : DS F g ba bk bc bw (dropE y (i1, i2)) ks cs co w.heap.size i1 i2 eb c s w3 := ⟨Q.P.turnAll ht3 hm3, blk_turned Q.I Q.P.all ht3, blk_turned Q.E Q.P.all ht3⟩
    have KT3 := Lib.hid (KT.out.trans ((Turn.of_map ht3).mono (F' := F) fun k _ e => by rw [e]; exact Q.P.own.2.1) (fun i hi => .inl hi))
    (refine call_op (i := 5) rfl (by kernel_rfl) (by rfl) (fun K hK => ?_); go_simp; skip; refine hK.out _ _ ⟨Q3.P.hd.cell, Q3.I.cell⟩ (fun hHeld2 => ?_); clear hK K hHeld; have hHeld := hHeld2; clear hHeld2; (try simp only [Act.put, List.setIfInBounds_toArray, List.set_cons_zero, List.set_cons_succ]))
    (refine wpAnyH_done (by kernel_rfl) ?_ _)
    clear hHeld hrun hm3 ht3 Q KT
    go_upto_region 4 with fail
    replace Q3 := Q3.keep (Below.refl _ _).drew
    replace KT3 := Lib.hid (KT3.out.trans (Turn.of_below (F := F) (Below.refl _ _).drew) (fun i hi => .inl hi))
    (refine wp_region_held_drew (S := (SD2 g #[.map (some ba), .map (some bk), .map (some bc), .map (some bw)] w.heap.size #[.int .i64 i1, .int .i64 i2])) (by kernel_rfl) ?_ (fun hHeld => ?_); (· exact ⟨Q3.P.hd.cell, Q3.I.cell⟩))
    (refine take_op (i := 0) (v := ?_) rfl (by kernel_rfl) (by kernel_rfl) (by kernel_rfl) (fun _ _ _ h => h) (by rfl) ?_ hHeld ?_; rotate_left; (· (intro wS hSw; (try dsimp only at hSw); go_simp; first | done | with_reducible rfl)); simp only [Act.put, List.setIfInBounds_toArray, List.set_cons_zero, List.set_cons_succ]); (refine take_op (i := 1) (v := ?_) rfl (by kernel_rfl) (by kernel_rfl) (by kernel_rfl) (fun _ _ _ h => h) (by rfl) ?_ hHeld ?_; rotate_left; (· (intro wS hSw; (try dsimp only at hSw); go_simp; first | done | with_reducible rfl)); simp only [Act.put, List.setIfInBounds_toArray, List.set_cons_zero, List.set_cons_succ]); (refine take_op (i := 2) (v := ?_) rfl (by kernel_rfl) (by kernel_rfl) (by kernel_rfl) (fun _ _ _ h => h) (by rfl) ?_ hHeld ?_; rotate_left; (· (intro wS hSw; (try dsimp only at hSw); go_simp; first | done | with_reducible rfl)); simp only [Act.put, List.setIfInBounds_toArray, List.set_cons_zero, List.set_cons_succ]); (refine take_op (i := 3) (v := ?_) rfl (by kernel_rfl) (by kernel_rfl) (by kernel_rfl) (fun _ _ _ h => h) (by rfl) ?_ hHeld ?_; rotate_left; (· (intro wS hSw; (try dsimp only at hSw); go_simp; first | done | with_reducible rfl)); simp only [Act.put, List.setIfInBounds_toArray, List.set_cons_zero, List.set_cons_succ]); (refine take_op (i := 4) (v := ?_) rfl (by kernel_rfl) (by kernel_rfl) (by kernel_rfl) (fun _ _ _ h => h) (by rfl) ?_ hHeld ?_; rotate_left; (· (intro wS hSw; (try dsimp only at hSw); go_simp; first | done | with_reducible rfl)); simp only [Act.put, List.setIfInBounds_toArray, List.set_cons_zero, List.set_cons_succ])
    obtain ⟨w4, hrun, hm4, ht4⟩ := (Q3.P.grp bw mw).drop Hwf.out 0
    rw [grp_map_out] at hm4
    simp only [grpK] at hrun
    have Q4 : DS F g ba bk bc bw (dropE y (i1, i2)) ks cs _ w.heap.size i1 i2 eb c s w4 := ⟨Q3.P.turnGrp mw ht4 hm4, blk_turned Q3.I (Q3.P.grp bw mw) ht4, blk_turned Q3.E (Q3.P.grp bw mw) ht4⟩
    have KT4 := Lib.hid (KT3.out.trans ((Turn.of_map ht4).mono (F' := F) fun k _ e => by rw [e]; exact Q3.P.own.2.2.2.2 bw mw) (fun i hi => .inl hi))
    (refine call_op (i := 5) rfl (by kernel_rfl) (by rfl) (fun K hK => ?_); go_simp; skip; refine hK.out _ _ ⟨Q4.P.hd.cell, Q4.I.cell⟩ (fun hHeld2 => ?_); clear hK K hHeld; have hHeld := hHeld2; clear hHeld2; (try simp only [Act.put, List.setIfInBounds_toArray, List.set_cons_zero, List.set_cons_succ]))
    (refine wpAnyH_done (by kernel_rfl) ?_ _)
    clear hHeld hrun hm4 ht4 Q3 KT3
    go_upto_region 5 with fail
    replace Q4 := Q4.keep (Below.refl _ _).drew
    replace KT4 := Lib.hid (KT4.out.trans (Turn.of_below (F := F) (Below.refl _ _).drew) (fun i hi => .inl hi))
    (refine wp_region_held_drew (S := (SD3 g #[.map (some ba), .map (some bk), .map (some bc), .map (some bw)] w.heap.size #[.int .i64 i1, .int .i64 i2] eb #[.int .i64 c.kind, .int .i64 c.client, .int .i64 c.seq, .string c.key, .string c.val, .int .i64 c.rev, .int .i64 s] bk c.key (some kb))) (by kernel_rfl) ?_ (fun hHeld => ?_); (· exact ⟨Q4.P.hd.cell, Q4.I.cell, Q4.E.cell, Hky.out _ Q4.P.keys⟩))
    (refine take_op (i := 0) (v := ?_) rfl (by kernel_rfl) (by kernel_rfl) (by kernel_rfl) (fun _ _ _ h => h) (by rfl) ?_ hHeld ?_; rotate_left; (· (intro wS hSw; (try dsimp only at hSw); go_simp; first | done | with_reducible rfl)); simp only [Act.put, List.setIfInBounds_toArray, List.set_cons_zero, List.set_cons_succ]); (refine take_op (i := 1) (v := ?_) rfl (by kernel_rfl) (by kernel_rfl) (by kernel_rfl) (fun _ _ _ h => h) (by rfl) ?_ hHeld ?_; rotate_left; (· (intro wS hSw; (try dsimp only at hSw); go_simp; first | done | with_reducible rfl)); simp only [Act.put, List.setIfInBounds_toArray, List.set_cons_zero, List.set_cons_succ]); (refine take_op (i := 2) (v := ?_) rfl (by kernel_rfl) (by kernel_rfl) (by kernel_rfl) (fun _ _ _ h => h) (by rfl) ?_ hHeld ?_; rotate_left; (· (intro wS hSw; (try dsimp only at hSw); go_simp; first | done | with_reducible rfl)); simp only [Act.put, List.setIfInBounds_toArray, List.set_cons_zero, List.set_cons_succ]); (refine take_op (i := 3) (v := ?_) rfl (by kernel_rfl) (by kernel_rfl) (by kernel_rfl) (fun _ _ _ h => h) (by rfl) ?_ hHeld ?_; rotate_left; (· (intro wS hSw; (try dsimp only at hSw); go_simp; first | done | with_reducible rfl)); simp only [Act.put, List.setIfInBounds_toArray, List.set_cons_zero, List.set_cons_succ]); (refine take_op (i := 4) (v := ?_) rfl (by kernel_rfl) (by kernel_rfl) (by kernel_rfl) (fun _ _ _ h => h) (by rfl) ?_ hHeld ?_; rotate_left; (· (intro wS hSw; (try dsimp only at hSw); go_simp; first | done | with_reducible rfl)); simp only [Act.put, List.setIfInBounds_toArray, List.set_cons_zero, List.set_cons_succ]); (refine take_op (i := 5) (v := ?_) rfl (by kernel_rfl) (by kernel_rfl) (by kernel_rfl) (fun _ _ _ h => h) (by rfl) ?_ hHeld ?_; rotate_left; (· (intro wS hSw; (try dsimp only at hSw); go_simp; first | done | with_reducible rfl)); simp only [Act.put, List.setIfInBounds_toArray, List.set_cons_zero, List.set_cons_succ]); (refine take_op (i := 6) (v := ?_) rfl (by kernel_rfl) (by kernel_rfl) (by kernel_rfl) (fun _ _ _ h => h) (by rfl) ?_ hHeld ?_; rotate_left; (· (intro wS hSw; (try dsimp only at hSw); go_simp; first | done | with_reducible rfl)); simp only [Act.put, List.setIfInBounds_toArray, List.set_cons_zero, List.set_cons_succ]); (refine take_op (i := 7) (v := ?_) rfl (by kernel_rfl) (by kernel_rfl) (by kernel_rfl) (fun _ _ _ h => h) (by rfl) ?_ hHeld ?_; rotate_left; (· (intro wS hSw; (try dsimp only at hSw); go_simp; first | done | with_reducible rfl)); simp only [Act.put, List.setIfInBounds_toArray, List.set_cons_zero, List.set_cons_succ]); (refine take_op (i := 8) (v := ?_) rfl (by kernel_rfl) (by kernel_rfl) (by kernel_rfl) (fun _ _ _ h => h) (by rfl) ?_ hHeld ?_; rotate_left; (· (intro wS hSw; (try dsimp only at hSw); go_simp; first | done | with_reducible rfl)); simp only [Act.put, List.setIfInBounds_toArray, List.set_cons_zero, List.set_cons_succ])
    obtain ⟨w5, hrun, hm5, ht5⟩ := (Q4.P.grp kb mk).drop Hwf.out 0
    rw [grp_map_out, upd_ne hb1] at hm5
    simp only [grpK] at hrun
    have Q5 : DS F g ba bk bc bw (dropE y (i1, i2)) ks cs _ w.heap.size i1 i2 eb c s w5 := ⟨Q4.P.turnGrp mk ht5 hm5, blk_turned Q4.I (Q4.P.grp kb mk) ht5, blk_turned Q4.E (Q4.P.grp kb mk) ht5⟩
    have KT5 := Lib.hid (KT4.out.trans ((Turn.of_map ht5).mono (F' := F) fun k _ e => by rw [e]; exact Q4.P.own.2.2.2.2 kb mk) (fun i hi => .inl hi))
    (refine call_op (i := 9) rfl (by kernel_rfl) (by rfl) (fun K hK => ?_); go_simp; skip; refine hK.out _ _ ⟨Q5.P.hd.cell, Q5.I.cell, Q5.E.cell, Hky.out _ Q5.P.keys⟩ (fun hHeld2 => ?_); clear hK K hHeld; have hHeld := hHeld2; clear hHeld2; (try simp only [Act.put, List.setIfInBounds_toArray, List.set_cons_zero, List.set_cons_succ]))
    (refine wpAnyH_done (by kernel_rfl) ?_ _)
    clear hHeld hrun hm5 ht5 Q4 KT4
    go_upto_region 6 with fail
    replace Q5 := Q5.keep (Below.refl _ _).drew
    replace KT5 := Lib.hid (KT5.out.trans (Turn.of_below (F := F) (Below.refl _ _).drew) (fun i hi => .inl hi))
    (refine wp_region_held_drew (S := (SD4 g #[.map (some ba), .map (some bk), .map (some bc), .map (some bw)] w.heap.size #[.int .i64 i1, .int .i64 i2] eb #[.int .i64 c.kind, .int .i64 c.client, .int .i64 c.seq, .string c.key, .string c.val, .int .i64 c.rev, .int .i64 s] bc c.client (some cb))) (by kernel_rfl) ?_ (fun hHeld => ?_); (· exact ⟨Q5.P.hd.cell, Q5.I.cell, Q5.E.cell, Hcl.out _ Q5.P.clis⟩))
    (refine take_op (i := 0) (v := ?_) rfl (by kernel_rfl) (by kernel_rfl) (by kernel_rfl) (fun _ _ _ h => h) (by rfl) ?_ hHeld ?_; rotate_left; (· (intro wS hSw; (try dsimp only at hSw); go_simp; first | done | with_reducible rfl)); simp only [Act.put, List.setIfInBounds_toArray, List.set_cons_zero, List.set_cons_succ]); (refine take_op (i := 1) (v := ?_) rfl (by kernel_rfl) (by kernel_rfl) (by kernel_rfl) (fun _ _ _ h => h) (by rfl) ?_ hHeld ?_; rotate_left; (· (intro wS hSw; (try dsimp only at hSw); go_simp; first | done | with_reducible rfl)); simp only [Act.put, List.setIfInBounds_toArray, List.set_cons_zero, List.set_cons_succ]); (refine take_op (i := 2) (v := ?_) rfl (by kernel_rfl) (by kernel_rfl) (by kernel_rfl) (fun _ _ _ h => h) (by rfl) ?_ hHeld ?_; rotate_left; (· (intro wS hSw; (try dsimp only at hSw); go_simp; first | done | with_reducible rfl)); simp only [Act.put, List.setIfInBounds_toArray, List.set_cons_zero, List.set_cons_succ]); (refine take_op (i := 3) (v := ?_) rfl (by kernel_rfl) (by kernel_rfl) (by kernel_rfl) (fun _ _ _ h => h) (by rfl) ?_ hHeld ?_; rotate_left; (· (intro wS hSw; (try dsimp only at hSw); go_simp; first | done | with_reducible rfl)); simp only [Act.put, List.setIfInBounds_toArray, List.set_cons_zero, List.set_cons_succ]); (refine take_op (i := 4) (v := ?_) rfl (by kernel_rfl) (by kernel_rfl) (by kernel_rfl) (fun _ _ _ h => h) (by rfl) ?_ hHeld ?_; rotate_left; (· (intro wS hSw; (try dsimp only at hSw); go_simp; first | done | with_reducible rfl)); simp only [Act.put, List.setIfInBounds_toArray, List.set_cons_zero, List.set_cons_succ]); (refine take_op (i := 5) (v := ?_) rfl (by kernel_rfl) (by kernel_rfl) (by kernel_rfl) (fun _ _ _ h => h) (by rfl) ?_ hHeld ?_; rotate_left; (· (intro wS hSw; (try dsimp only at hSw); go_simp; first | done | with_reducible rfl)); simp only [Act.put, List.setIfInBounds_toArray, List.set_cons_zero, List.set_cons_succ]); (refine take_op (i := 6) (v := ?_) rfl (by kernel_rfl) (by kernel_rfl) (by kernel_rfl) (fun _ _ _ h => h) (by rfl) ?_ hHeld ?_; rotate_left; (· (intro wS hSw; (try dsimp only at hSw); go_simp; first | done | with_reducible rfl)); simp only [Act.put, List.setIfInBounds_toArray, List.set_cons_zero, List.set_cons_succ]); (refine take_op (i := 7) (v := ?_) rfl (by kernel_rfl) (by kernel_rfl) (by kernel_rfl) (fun _ _ _ h => h) (by rfl) ?_ hHeld ?_; rotate_left; (· (intro wS hSw; (try dsimp only at hSw); go_simp; first | done | with_reducible rfl)); simp only [Act.put, List.setIfInBounds_toArray, List.set_cons_zero, List.set_cons_succ]); (refine take_op (i := 8) (v := ?_) rfl (by kernel_rfl) (by kernel_rfl) (by kernel_rfl) (fun _ _ _ h => h) (by rfl) ?_ hHeld ?_; rotate_left; (· (intro wS hSw; (try dsimp only at hSw); go_simp; first | done | with_reducible rfl)); simp only [Act.put, List.setIfInBounds_toArray, List.set_cons_zero, List.set_cons_succ])
    obtain ⟨w6, hrun, hm6, ht6⟩ := (Q5.P.grp cb mc).drop Hwf.out 0
    rw [grp_map_out, upd_ne (fun e => hb3 e.symm), upd_ne hb2] at hm6
    simp only [grpK] at hrun
    have Q6 := Q5.P.turnGrp mc ht6 hm6
    have KT6 := Lib.hid (KT5.out.trans ((Turn.of_map ht6).mono (F' := F) fun k _ e => by rw [e]; exact Q5.P.own.2.2.2.2 cb mc) (fun i hi => .inl hi))
    (refine call_op (i := 9) rfl (by kernel_rfl) (by rfl) (fun K hK => ?_); go_simp; skip; refine hK.out _ _ ⟨Q6.hd.cell, (blk_turned Q5.I (Q5.P.grp cb mc) ht6).cell, (blk_turned Q5.E (Q5.P.grp cb mc) ht6).cell, Hcl.out _ Q6.clis⟩ (fun hHeld2 => ?_); clear hK K hHeld; have hHeld := hHeld2; clear hHeld2; (try simp only [Act.put, List.setIfInBounds_toArray, List.set_cons_zero, List.set_cons_succ]))
    (refine wpAnyH_done (by kernel_rfl) ?_ _)
    clear hHeld hrun hm6 ht6 Q5 KT5
    go_wp2_with fail
    go_end0
    exact ⟨rfl, F, ⟨_, _, _, _, _, _, _, Q6, HVd.out, fun e he => HE.out.1 e (mem_dropE.1 he).1, Nat.le_trans (dropE_le _ _) HE.out.2.1, HE.out.2.2⟩, fun i hi => .inl hi, KT6.out⟩
end Go.Proofs.Ytpdfbkkhmfnnjaa

namespace Go.Proofs.Ytpdfbkkhmfnnjaa
open Go.RowKit
set_option linter.unusedVariables false
set_option linter.unusedSimpArgs false
set_option maxRecDepth 20000
attribute [local go_sem ↓] Go.wp_at_zero Go.wp_at_succ
attribute [local go_sem] World.cell?_alloc_some frozen_alloc_some
open Go.Maps

theorem eql_nil (w : World) : (binOp .eql 74 (.map none) (.map none)).run Try.prog w = .ok (.bool true) w := by kernel_rfl
theorem eql_some (b : Nat) (w : World) : (binOp .eql 74 (.map (some b)) (.map none)).run Try.prog w = .ok (.bool false) w := by kernel_rfl
def addI (l : List IdP) (i : IdP) : List IdP := outI l i ++ [i]
theorem mem_addI {l : List IdP} {i x : IdP} : x ∈ addI l i ↔ x ∈ l ∨ x = i := by
  unfold addI
  rw [List.mem_append, mem_outI]
  by_cases e : x = i <;> simp [e]
theorem nodup_addI {l : List IdP} (h : l.Nodup) (i : IdP) : (addI l i).Nodup := by
  unfold addI
  rw [List.nodup_append]
  exact ⟨List.Pairwise.filter _ h, by simp, fun a ha b hb => by simp at hb; rw [hb]; exact (mem_outI.1 ha).2⟩
theorem map_addI (l : List IdP) (i : IdP) : outM (l.map pG) i ++ [(i, true)] = (addI l i).map pG := by
  unfold addI
  rw [grp_map_out, List.map_append]
  rfl
theorem mem_grpK {bw b : Nat} {ks : List (ByteArray × Nat)} {cs : List (Int × Nat)} {k : ByteArray} (h : (k, b) ∈ ks) : b ∈ grps bw ks cs := List.mem_cons_of_mem _ (List.mem_append_left _ (List.mem_map.2 ⟨_, h, rfl⟩))
theorem mem_grpC {bw b : Nat} {ks : List (ByteArray × Nat)} {cs : List (Int × Nat)} {k : Int} (h : (k, b) ∈ cs) : b ∈ grps bw ks cs := List.mem_cons_of_mem _ (List.mem_append_right _ (List.mem_map.2 ⟨_, h, rfl⟩))
theorem mem_grpW {bw : Nat} {ks : List (ByteArray × Nat)} {cs : List (Int × Nat)} : bw ∈ grps bw ks cs := List.mem_cons_self ..
theorem hasM_pK {α : Type} [DecidableEq α] {ks : List (α × Nat)} {k : α} (h : hasM (ks.map fun t => (t.1, some t.2)) k = true) : ∃ b, (k, b) ∈ ks := by
  obtain ⟨t, ht, e⟩ := hasM_iff.1 h
  obtain ⟨⟨x, b⟩, hx, rfl⟩ := List.mem_map.1 ht
  simp only at e
  subst e
  exact ⟨b, hx⟩
theorem hasM_pK_no {α : Type} [DecidableEq α] {ks : List (α × Nat)} {k : α} (h : hasM (ks.map fun t => (t.1, some t.2)) k = false) : ∀ t ∈ ks, t.1 ≠ k := fun t ht => hasM_no h _ (List.mem_map.2 ⟨t, ht, rfl⟩)
theorem outM_pK {α : Type} [DecidableEq α] {ks : List (α × Nat)} {k : α} (h : ∀ t ∈ ks, t.1 ≠ k) (b : Nat) : outM (ks.map fun t => (t.1, some t.2)) k ++ [(k, some b)] = (ks ++ [(k, b)]).map fun t => (t.1, some t.2) := by
  rw [outM_same (fun t ht => by obtain ⟨x, hx, rfl⟩ := List.mem_map.1 ht; exact h x hx), List.map_append]
  rfl
theorem IxG.fresh {w : World} {F : Nat → Prop} {g ba bk bc bw : Nat} {y : List EntT} {ks : List (ByteArray × Nat)} {cs : List (Int × Nat)} {co : Nat → List IdP} (h : IxG w F g ba bk bc bw y ks cs co) {n : Nat} (hn : w.heap.size ≤ n) : n ∉ grps bw ks cs := fun hm => by
  have := (h.grp n hm).lt
  omega

/-- What an id's coming leaves: the groups, and the index in memory. -/
def InsS (w : World) (F : Nat → Prop) (g ba bk bc bw : Nat) (y : List EntT) (ks : List (ByteArray × Nat)) (cs : List (Int × Nat)) (co : Nat → List IdP) (k : ByteArray) (i : IdP) (e : Ending) (w' : World) : Prop :=
  e = .returned (.tuple #[]) ∧ ∃ F' b co1 ks', IxG w' F' g ba bk bc bw y ks' cs (upd co1 b (addI (co1 b) i)) ∧ ((ks' = ks ∧ co1 = co ∧ (k, b) ∈ ks) ∨ (ks' = ks ++ [(k, b)] ∧ co1 = upd co b [] ∧ (∀ t ∈ ks, t.1 ≠ k) ∧ b ∉ grps bw ks cs)) ∧ (∀ k, F' k → F k ∨ w.heap.size ≤ k) ∧ Turn F w w'
set_option maxHeartbeats 4000000 in
theorem Ins_any (F : Nat → Prop) (g ba bk bc bw : Nat) (y : List EntT) (ks : List (ByteArray × Nat)) (cs : List (Int × Nat)) (co : Nat → List IdP) (k : ByteArray) (i1 i2 : Int) (w : World) (h : IxG w F g ba bk bc bw y ks cs co) (hk : k.size ≤ maxLen) (hi : wfI (i1, i2)) (hn : ks.length < maxLen) (hco : ∀ b, (k, b) ∈ ks → (co b).length < maxLen) :
    Calls Try.prog 32 #[.map (some bk), .string k, .agg #[.int .i64 i1, .int .i64 i2]] w (InsS w F g ba bk bc bw y ks cs co k (i1, i2)) := by
  have hb := below_one (w := w) (.cells #[.int .i64 i1, .int .i64 i2] 26)
  have I0 := Blk.new w 26 #[.int .i64 i1, .int .i64 i2]
  have P := h.keep hb
  have KT := Turn.of_below (F := F) hb
  revert P KT I0
  obtain ⟨wd, hwd⟩ : ∃ wd, wd = w.alloc (.cells #[.int .i64 i1, .int .i64 i2] 26) := ⟨_, rfl⟩
  rw [← hwd]
  intro I0 P KT
  have ic := I0.cell
  have hmm := @run_makeMap Try.prog
  have hlk := P.keys.look (s := k) hk
  cases hh : hasM (ks.map pK) k
  · have hno := hasM_pK_no hh
    have h0 : getM keyK.e0 (ks.map pK) k = none := getM_miss hh
    rw [h0] at hlk
    have hlk1 : (Instr.lookup 71 (.map (some bk)) (.string k) false).run Try.prog wd = .ok (.map none) wd := hlk
    have ha := below_one (w := wd) (.map #[] 0)
    have G0 := GAt.made grpK wd
    have P1 := P.keep ha
    obtain ⟨w1, hst1, hm1, ht1⟩ := P1.keys.store (by rw [List.length_map]; exact hn) (some wd.heap.size) hk
    rw [outM_pK hno] at hm1
    have hst1' : (Instr.mapUpdate 71 (.map (some bk)) (.string k) (.map (some wd.heap.size))).run Try.prog (wd.alloc (.map #[] 0)) = .ok () w1 := hst1
    have T1 := Turn.of_map ht1
    have hne : wd.heap.size ≠ bk := fun e => by have := P.keys.lt; omega
    have G1 : GAt grpK w1 wd.heap.size [] := G0.same (T1.block _ G0.lt hne)
    have T2 : Turn (fun i => i = bk) wd w1 := (Turn.of_below ha).trans T1 (fun i hi => .inl hi)
    have P2 := P.newKey T2 (Nat.le_refl _) G1.lt hm1 G1
    have I1 := T2.blk I0 (fun e => P.keys.ne_blk I0 e.symm)
    have ic1 := I1.cell
    have hlk2 := P2.keys.look (s := k) hk
    have h2 := getM_hit (z := keyK.e0) P2.keys.nd (List.mem_map.2 ⟨(k, wd.heap.size), List.mem_append_right _ (List.mem_singleton.2 rfl), rfl⟩ : pK (k, wd.heap.size) ∈ _)
    simp only at h2
    rw [h2] at hlk2
    have hlk2' : (Instr.lookup 71 (.map (some bk)) (.string k) false).run Try.prog w1 = .ok (.map (some wd.heap.size)) w1 := hlk2
    obtain ⟨w2, hst2, hm2, ht2⟩ := G1.store (s := (i1, i2)) (by simp [maxLen]) true hi
    have hst2' : (Instr.mapUpdate 74 (.map (some wd.heap.size)) (.agg #[.int .i64 i1, .int .i64 i2]) (.bool true)).run Try.prog w1 = .ok () w2 := hst2
    have P3 := P2.turnGrp (l := addI (upd co wd.heap.size [] wd.heap.size) (i1, i2)) (b := wd.heap.size) (mem_grpK (List.mem_append_right _ (List.mem_singleton.2 rfl))) ht2 (by rw [upd_same, ← map_addI]; exact hm2)
    have KT3 : Turn F w w2 := (KT.trans (T2.mono (F' := F) fun k _ e => by rw [e]; exact P.own.2.2.1) (fun i hi => .inl hi)).trans (Turn.of_map ht2) (fun i hi => .inr (by rw [hi, hwd]; simp))
    have hsz : w.heap.size ≤ wd.heap.size := by rw [hwd]; simp
    have FIN : InsS w F g ba bk bc bw y ks cs co k (i1, i2) (.returned (.tuple #[])) w2 := ⟨rfl, _, _, _, _, P3, .inr ⟨rfl, rfl, hno, h.fresh hsz⟩, (fun i hi => hi.imp id fun e => by rw [e]; exact hsz), KT3⟩
    have HF := Lib.hid FIN
    clear FIN KT3 P3 hst2 hm2 ht2 hlk2 h2 P2 T2 G1 T1 hst1 hm1 ht1 P1 G0 ha hlk h0 hno hh KT P I1 hn hco hk h hne I0 hb hi
    subst hwd
    simp only [World.size_alloc] at hst1' hlk2' hst2' ic1
    have he1 := eql_nil
    have he2 := eql_some
    go_enter Try.func32, Try.ntmps32
    go_wp2_with fail
    go_end0
    exact HF.out
  · obtain ⟨b, hkb⟩ := hasM_pK hh
    have h0 := getM_hit (z := keyK.e0) P.keys.nd (List.mem_map.2 ⟨_, hkb, rfl⟩ : pK (k, b) ∈ ks.map pK)
    simp only at h0
    rw [h0] at hlk
    have hlk1 : (Instr.lookup 71 (.map (some bk)) (.string k) false).run Try.prog wd = .ok (.map (some b)) wd := hlk
    have mb : b ∈ grps bw ks cs := mem_grpK hkb
    obtain ⟨w2, hst2, hm2, ht2⟩ := (P.grp b mb).store (s := (i1, i2)) (by rw [List.length_map]; exact hco b hkb) true hi
    have hst2' : (Instr.mapUpdate 74 (.map (some b)) (.agg #[.int .i64 i1, .int .i64 i2]) (.bool true)).run Try.prog wd = .ok () w2 := hst2
    rw [map_addI] at hm2
    have P3 := P.turnGrp mb ht2 hm2
    have KT3 : Turn F w w2 := KT.trans ((Turn.of_map ht2).mono (F' := F) fun k _ e => by rw [e]; exact P.own.2.2.2.2 b mb) (fun i hi => .inl hi)
    have FIN : InsS w F g ba bk bc bw y ks cs co k (i1, i2) (.returned (.tuple #[])) w2 := ⟨rfl, _, _, _, _, P3, .inl ⟨rfl, rfl, hkb⟩, (fun i hi => .inl hi), KT3⟩
    have HF := Lib.hid FIN
    clear FIN KT3 P3 hst2 hm2 ht2 mb hlk h0 hkb hh KT P hn hco hk h I0 hb hi
    subst hwd
    have he1 := eql_nil
    have he2 := eql_some
    go_enter Try.func32, Try.ntmps32
    go_wp2_with fail
    go_end0
    exact HF.out

/-- What an id's coming leaves: the groups, and the index in memory. -/
def IniS (w : World) (F : Nat → Prop) (g ba bk bc bw : Nat) (y : List EntT) (ks : List (ByteArray × Nat)) (cs : List (Int × Nat)) (co : Nat → List IdP) (k : Int) (i : IdP) (e : Ending) (w' : World) : Prop :=
  e = .returned (.tuple #[]) ∧ ∃ F' b co1 cs', IxG w' F' g ba bk bc bw y ks cs' (upd co1 b (addI (co1 b) i)) ∧ ((cs' = cs ∧ co1 = co ∧ (k, b) ∈ cs) ∨ (cs' = cs ++ [(k, b)] ∧ co1 = upd co b [] ∧ (∀ t ∈ cs, t.1 ≠ k) ∧ b ∉ grps bw ks cs)) ∧ (∀ k, F' k → F k ∨ w.heap.size ≤ k) ∧ Turn F w w'
set_option maxHeartbeats 4000000 in
theorem Ini_any (F : Nat → Prop) (g ba bk bc bw : Nat) (y : List EntT) (ks : List (ByteArray × Nat)) (cs : List (Int × Nat)) (co : Nat → List IdP) (k : Int) (i1 i2 : Int) (w : World) (h : IxG w F g ba bk bc bw y ks cs co) (hk : (Lit.int .i64 k).wf = true) (hi : wfI (i1, i2)) (hn : cs.length < maxLen) (hco : ∀ b, (k, b) ∈ cs → (co b).length < maxLen) :
    Calls Try.prog 33 #[.map (some bc), .int .i64 k, .agg #[.int .i64 i1, .int .i64 i2]] w (IniS w F g ba bk bc bw y ks cs co k (i1, i2)) := by
  have hb := below_one (w := w) (.cells #[.int .i64 i1, .int .i64 i2] 26)
  have I0 := Blk.new w 26 #[.int .i64 i1, .int .i64 i2]
  have P := h.keep hb
  have KT := Turn.of_below (F := F) hb
  revert P KT I0
  obtain ⟨wd, hwd⟩ : ∃ wd, wd = w.alloc (.cells #[.int .i64 i1, .int .i64 i2] 26) := ⟨_, rfl⟩
  rw [← hwd]
  intro I0 P KT
  have ic := I0.cell
  have hmm := @run_makeMap Try.prog
  have hlk := P.clis.look (s := k) hk
  cases hh : hasM (cs.map pC) k
  · have hno := hasM_pK_no hh
    have h0 : getM cliK.e0 (cs.map pC) k = none := getM_miss hh
    rw [h0] at hlk
    have hlk1 : (Instr.lookup 72 (.map (some bc)) (.int .i64 k) false).run Try.prog wd = .ok (.map none) wd := hlk
    have ha := below_one (w := wd) (.map #[] 0)
    have G0 := GAt.made grpK wd
    have P1 := P.keep ha
    obtain ⟨w1, hst1, hm1, ht1⟩ := P1.clis.store (by rw [List.length_map]; exact hn) (some wd.heap.size) hk
    rw [outM_pK hno] at hm1
    have hst1' : (Instr.mapUpdate 72 (.map (some bc)) (.int .i64 k) (.map (some wd.heap.size))).run Try.prog (wd.alloc (.map #[] 0)) = .ok () w1 := hst1
    have T1 := Turn.of_map ht1
    have hne : wd.heap.size ≠ bc := fun e => by have := P.clis.lt; omega
    have G1 : GAt grpK w1 wd.heap.size [] := G0.same (T1.block _ G0.lt hne)
    have T2 : Turn (fun i => i = bc) wd w1 := (Turn.of_below ha).trans T1 (fun i hi => .inl hi)
    have P2 := P.newCli T2 (Nat.le_refl _) G1.lt hm1 G1
    have I1 := T2.blk I0 (fun e => P.clis.ne_blk I0 e.symm)
    have ic1 := I1.cell
    have hlk2 := P2.clis.look (s := k) hk
    have h2 := getM_hit (z := cliK.e0) P2.clis.nd (List.mem_map.2 ⟨(k, wd.heap.size), List.mem_append_right _ (List.mem_singleton.2 rfl), rfl⟩ : pC (k, wd.heap.size) ∈ _)
    simp only at h2
    rw [h2] at hlk2
    have hlk2' : (Instr.lookup 72 (.map (some bc)) (.int .i64 k) false).run Try.prog w1 = .ok (.map (some wd.heap.size)) w1 := hlk2
    obtain ⟨w2, hst2, hm2, ht2⟩ := G1.store (s := (i1, i2)) (by simp [maxLen]) true hi
    have hst2' : (Instr.mapUpdate 74 (.map (some wd.heap.size)) (.agg #[.int .i64 i1, .int .i64 i2]) (.bool true)).run Try.prog w1 = .ok () w2 := hst2
    have P3 := P2.turnGrp (l := addI (upd co wd.heap.size [] wd.heap.size) (i1, i2)) (b := wd.heap.size) (mem_grpC (List.mem_append_right _ (List.mem_singleton.2 rfl))) ht2 (by rw [upd_same, ← map_addI]; exact hm2)
    have KT3 : Turn F w w2 := (KT.trans (T2.mono (F' := F) fun k _ e => by rw [e]; exact P.own.2.2.2.1) (fun i hi => .inl hi)).trans (Turn.of_map ht2) (fun i hi => .inr (by rw [hi, hwd]; simp))
    have hsz : w.heap.size ≤ wd.heap.size := by rw [hwd]; simp
    have FIN : IniS w F g ba bk bc bw y ks cs co k (i1, i2) (.returned (.tuple #[])) w2 := ⟨rfl, _, _, _, _, P3, .inr ⟨rfl, rfl, hno, h.fresh hsz⟩, (fun i hi => hi.imp id fun e => by rw [e]; exact hsz), KT3⟩
    have HF := Lib.hid FIN
    clear FIN KT3 P3 hst2 hm2 ht2 hlk2 h2 P2 T2 G1 T1 hst1 hm1 ht1 P1 G0 ha hlk h0 hno hh KT P I1 hn hco hk h hne I0 hb hi
    subst hwd
    simp only [World.size_alloc] at hst1' hlk2' hst2' ic1
    have he1 := eql_nil
    have he2 := eql_some
    go_enter Try.func33, Try.ntmps33
    go_wp2_with fail
    go_end0
    exact HF.out
  · obtain ⟨b, hkb⟩ := hasM_pK hh
    have h0 := getM_hit (z := cliK.e0) P.clis.nd (List.mem_map.2 ⟨_, hkb, rfl⟩ : pC (k, b) ∈ cs.map pC)
    simp only at h0
    rw [h0] at hlk
    have hlk1 : (Instr.lookup 72 (.map (some bc)) (.int .i64 k) false).run Try.prog wd = .ok (.map (some b)) wd := hlk
    have mb : b ∈ grps bw ks cs := mem_grpC hkb
    obtain ⟨w2, hst2, hm2, ht2⟩ := (P.grp b mb).store (s := (i1, i2)) (by rw [List.length_map]; exact hco b hkb) true hi
    have hst2' : (Instr.mapUpdate 74 (.map (some b)) (.agg #[.int .i64 i1, .int .i64 i2]) (.bool true)).run Try.prog wd = .ok () w2 := hst2
    rw [map_addI] at hm2
    have P3 := P.turnGrp mb ht2 hm2
    have KT3 : Turn F w w2 := KT.trans ((Turn.of_map ht2).mono (F' := F) fun k _ e => by rw [e]; exact P.own.2.2.2.2 b mb) (fun i hi => .inl hi)
    have FIN : IniS w F g ba bk bc bw y ks cs co k (i1, i2) (.returned (.tuple #[])) w2 := ⟨rfl, _, _, _, _, P3, .inl ⟨rfl, rfl, hkb⟩, (fun i hi => .inl hi), KT3⟩
    have HF := Lib.hid FIN
    clear FIN KT3 P3 hst2 hm2 ht2 mb hlk h0 hkb hh KT P hn hco hk h I0 hb hi
    subst hwd
    have he1 := eql_nil
    have he2 := eql_some
    go_enter Try.func33, Try.ntmps33
    go_wp2_with fail
    go_end0
    exact HF.out
end Go.Proofs.Ytpdfbkkhmfnnjaa

namespace Go.Proofs.Ytpdfbkkhmfnnjaa
open Go.RowKit
set_option linter.unusedVariables false
set_option linter.unusedSimpArgs false
set_option maxRecDepth 20000
attribute [local go_sem ↓] Go.wp_at_zero Go.wp_at_succ
attribute [local go_sem] World.cell?_alloc_some frozen_alloc_some
open Go.Maps

theorem InvX.lenK {y : List EntT} {ks : List (ByteArray × Nat)} {cs : List (Int × Nat)} {bw : Nat} {co : Nat → List IdP} (h : InvX y ks cs bw co) {b : Nat} (hb : b ∈ grps bw ks cs) : (co b).length ≤ y.length := by
  have hs : ∀ i ∈ co b, i ∈ y.map EntT.i := fun i hi => by
    rcases List.mem_cons.1 hb with rfl | hb
    · obtain ⟨e, he, e1, _⟩ := (h.win i).1 hi
      exact List.mem_map.2 ⟨e, he, e1⟩
    · rcases List.mem_append.1 hb with hb | hb
      · obtain ⟨t, ht, rfl⟩ := List.mem_map.1 hb
        obtain ⟨e, he, e1, _⟩ := (h.kin t ht i).1 hi
        exact List.mem_map.2 ⟨e, he, e1⟩
      · obtain ⟨t, ht, rfl⟩ := List.mem_map.1 hb
        obtain ⟨e, he, e1, _⟩ := (h.cin t ht i).1 hi
        exact List.mem_map.2 ⟨e, he, e1⟩
  have h1 := sum_sub_g (fun _ : IdP => 1) (h.one b) hs
  have hone : ∀ l : List IdP, (l.map (fun _ => 1)).sum = l.length := fun l => by induction l with | nil => rfl | cons a l ih => simp only [List.map_cons, List.sum_cons, List.length_cons, ih]; omega
  rw [hone, hone, List.length_map] at h1
  exact h1
/-- The groups behind an entry's coming. -/
theorem put_inv {y : List EntT} {ks : List (ByteArray × Nat)} {cs : List (Int × Nat)} {bw : Nat} {co : Nat → List IdP} (h : InvX y ks cs bw co) {e : EntT} (he : ∀ x ∈ y, x.i ≠ e.i) {ks' : List (ByteArray × Nat)} {cs' : List (Int × Nat)} {b1 b2 : Nat} {co1 co3 : Nat → List IdP}
    (h1 : (ks' = ks ∧ co1 = co ∧ (e.c.key, b1) ∈ ks) ∨ (ks' = ks ++ [(e.c.key, b1)] ∧ co1 = upd co b1 [] ∧ (∀ t ∈ ks, t.1 ≠ e.c.key) ∧ b1 ∉ grps bw ks cs))
    (h2 : (cs' = cs ∧ co3 = upd co1 b1 (addI (co1 b1) e.i) ∧ (e.c.client, b2) ∈ cs) ∨ (cs' = cs ++ [(e.c.client, b2)] ∧ co3 = upd (upd co1 b1 (addI (co1 b1) e.i)) b2 [] ∧ (∀ t ∈ cs, t.1 ≠ e.c.client) ∧ b2 ∉ grps bw ks' cs)) :
    InvX (y ++ [e]) ks' cs' bw (if isWideC e.c = true then upd (upd co3 b2 (addI (co3 b2) e.i)) bw (addI (upd co3 b2 (addI (co3 b2) e.i) bw) e.i) else upd co3 b2 (addI (co3 b2) e.i)) ∧ (upd co3 b2 (addI (co3 b2) e.i) bw).length ≤ y.length := by
  have g1 : InvX y ks' cs bw co1 ∧ (e.c.key, b1) ∈ ks' := by
    rcases h1 with ⟨rfl, rfl, hk⟩ | ⟨rfl, rfl, hk, hb⟩
    · exact ⟨h, hk⟩
    · exact ⟨h.newKey hk hb, by simp⟩
  obtain ⟨I1, hk⟩ := g1
  clear h1 h
  obtain ⟨cg, I2, hc, h3, h3k⟩ : ∃ cg, InvX y ks' cs' bw cg ∧ (e.c.client, b2) ∈ cs' ∧ (∀ x, x ≠ b1 → co3 x = cg x) ∧ co3 b1 = addI (cg b1) e.i := by
    rcases h2 with ⟨rfl, rfl, hc⟩ | ⟨rfl, rfl, hc, hb⟩
    · exact ⟨co1, I1, hc, fun x hx => upd_ne hx, upd_same ..⟩
    · have hne : b2 ≠ b1 := fun e2 => hb (by rw [e2]; exact mem_grpK hk)
      refine ⟨upd co1 b2 [], I1.newCli hc hb, by simp, fun x hx => ?_, ?_⟩
      · by_cases e3 : x = b2
        · rw [e3, upd_same, upd_same]
        · rw [upd_ne e3, upd_ne e3, upd_ne hx]
      · rw [upd_ne (fun e2 => hne e2.symm), upd_ne (fun e2 => hne e2.symm), upd_same]
  clear h2 I1
  obtain ⟨a1, a2, a3, a4, a5⟩ := I2.apart
  have n1 : b1 ≠ bw := a1 _ hk
  have n2 : b2 ≠ bw := a2 _ hc
  have n3 : b1 ≠ b2 := a3 _ hk _ hc
  have hco3 : ∀ b, (co3 b).Nodup := fun b => by
    by_cases e1 : b = b1
    · rw [e1, h3k]; exact nodup_addI (I2.one _) _
    · rw [h3 b e1]; exact I2.one b
  have v1 : upd co3 b2 (addI (co3 b2) e.i) b1 = addI (cg b1) e.i := by rw [upd_ne n3, h3k]
  have v2 : upd co3 b2 (addI (co3 b2) e.i) b2 = addI (cg b2) e.i := by rw [upd_same, h3 b2 (fun e => n3 e.symm)]
  have v3 : upd co3 b2 (addI (co3 b2) e.i) bw = cg bw := by rw [upd_ne (fun e => n2 e.symm), h3 bw (fun e => n1 e.symm)]
  have v4 : ∀ b, b ≠ b1 → b ≠ b2 → upd co3 b2 (addI (co3 b2) e.i) b = cg b := fun b e1 e2 => by rw [upd_ne e2, h3 b e1]
  have v5 : ∀ b, (upd co3 b2 (addI (co3 b2) e.i) b).Nodup := fun b => by
    by_cases e1 : b = b2
    · rw [e1, upd_same]; exact nodup_addI (hco3 _) _
    · rw [upd_ne e1]; exact hco3 b
  refine ⟨?_, by rw [v3]; exact I2.lenK mem_grpW⟩
  by_cases hw : isWideC e.c = true
  · rw [if_pos hw]
    refine I2.put he hk hc (fun b => ?_) (fun i => ?_) (fun i => ?_) (fun i => ?_) (fun b e1 e2 e3 => ?_)
    · by_cases e1 : b = bw
      · rw [e1, upd_same]; exact nodup_addI (v5 _) _
      · rw [upd_ne e1]; exact v5 b
    · rw [upd_ne n1, v1, mem_addI]
    · rw [upd_ne n2, v2, mem_addI]
    · rw [upd_same, v3, mem_addI]
      simp [hw]
    · rw [upd_ne e3, v4 b e1 e2]
  · rw [if_neg hw]
    refine I2.put he hk hc v5 (fun i => ?_) (fun i => ?_) (fun i => ?_) (fun b e1 e2 e3 => v4 b e1 e2)
    · rw [v1, mem_addI]
    · rw [v2, mem_addI]
    · rw [v3]
      simp [hw]
abbrev SD3' (g : Nat) (cs : Array Value) (h : Nat) (ds : Array Value) (e : Nat) (es : Array Value) (wx : World) : Prop := (∀ i, wx.cell? ⟨g, i, none⟩ = cs[i]?) ∧ (∀ i, wx.cell? ⟨h, i, none⟩ = ds[i]?) ∧ (∀ i, wx.cell? ⟨e, i, none⟩ = es[i]?)
structure PS (F : Nat → Prop) (g ba bk bc bw : Nat) (y : List EntT) (ks : List (ByteArray × Nat)) (cs : List (Int × Nat)) (co : Nat → List IdP) (ib jb : Nat) (i1 i2 : Int) (c : CmdT) (W : World) : Prop where
  P : IxG W F g ba bk bc bw y ks cs co
  I : Blk W ib 26 #[.int .i64 i1, .int .i64 i2]
  C : Blk W jb 24 #[.int .i64 c.kind, .int .i64 c.client, .int .i64 c.seq, .string c.key, .string c.val, .int .i64 c.rev]
theorem PS.keep {F : Nat → Prop} {g ba bk bc bw : Nat} {y : List EntT} {ks : List (ByteArray × Nat)} {cs : List (Int × Nat)} {co : Nat → List IdP} {ib jb : Nat} {i1 i2 : Int} {c : CmdT} {W W' : World} (h : PS F g ba bk bc bw y ks cs co ib jb i1 i2 c W) (hb : Below W.heap.size W W') :
    PS F g ba bk bc bw y ks cs co ib jb i1 i2 c W' := ⟨h.P.keep hb, h.I.keep hb, h.C.keep hb⟩
set_option maxHeartbeats 4000000 in
theorem ixput_any (F : Nat → Prop) (g n : Nat) (y : List EntT) (i1 i2 : Int) (c : CmdT) (s : Int) (w : World) (h : IxAt w F g y n) (hi : wfI (i1, i2)) (hc : c.Ok) (hs : (Lit.int .i64 s).wf = true) (hn : n ≤ 1000000) :
    Calls Try.prog 12 #[.pointer (some ⟨g, 0, none⟩), .agg #[.int .i64 i1, .int .i64 i2], c.v, .int .i64 s] w (Ixs w F g (putE y ⟨(i1, i2), c, s⟩) (n + 1)) := by
  have hdr := fun W (h : IxAt W F g y n) => ixdrop_any F g n y i1 i2 W h hi
  have hiw := fun W => iswide_any c.kind c.client c.seq c.key c.val c.rev W
  have hlt := h.lt
  have hb := (below_one (w := w) (.cells #[.int .i64 i1, .int .i64 i2] 26)).trans (below_one (w := w.alloc (.cells #[.int .i64 i1, .int .i64 i2] 26)) (.cells #[.int .i64 c.kind, .int .i64 c.client, .int .i64 c.seq, .string c.key, .string c.val, .int .i64 c.rev] 24) |>.mono (by simp))
  have I0 : Blk ((w.alloc (.cells #[.int .i64 i1, .int .i64 i2] 26)).alloc (.cells #[.int .i64 c.kind, .int .i64 c.client, .int .i64 c.seq, .string c.key, .string c.val, .int .i64 c.rev] 24)) w.heap.size 26 #[.int .i64 i1, .int .i64 i2] := (Blk.new w _ _).alloc _
  have C0 : Blk ((w.alloc (.cells #[.int .i64 i1, .int .i64 i2] 26)).alloc (.cells #[.int .i64 c.kind, .int .i64 c.client, .int .i64 c.seq, .string c.key, .string c.val, .int .i64 c.rev] 24)) (w.heap.size + 1) 24 #[.int .i64 c.kind, .int .i64 c.client, .int .i64 c.seq, .string c.key, .string c.val, .int .i64 c.rev] := blk_newAt (by simp)
  have hd := hdr _ (h.keep hb)
  have KT := Lib.hid (Turn.of_below (F := F) hb)
  have Hwf := Lib.hid hi
  have Hc := Lib.hid hc
  have Hs := Lib.hid hs
  have ic := I0.cell
  have cc := C0.cell
  have hsz : ∀ o o' : Obj, ((w.alloc o).alloc o').heap.size = w.heap.size + 2 := fun o o' => by simp
  have Hsz := Lib.hid (hsz (.cells #[.int .i64 i1, .int .i64 i2] 26) (.cells #[.int .i64 c.kind, .int .i64 c.client, .int .i64 c.seq, .string c.key, .string c.val, .int .i64 c.rev] 24))
  clear hdr hb h hi hc hs hsz
  unfold CmdT.v
  go_enter Try.func12, Try.ntmps12
  go_upto_region 2 with (go_at_call 13; (with_reducible refine hd.mono ?_); rintro e w1 ⟨rfl, F1, H1, hF1, T1⟩)
  have nI : ¬ F w.heap.size := fun e => by have := hlt _ e; omega
  have nC : ¬ F (w.heap.size + 1) := fun e => by have := hlt _ e; omega
  replace I0 := T1.blk I0 nI
  replace C0 := T1.blk C0 nC
  rw [Hsz.out] at hF1
  replace KT := Lib.hid (KT.out.trans T1 (fun i hi => .inl hi))
  have HF := Lib.hid hF1
  have Hlt := Lib.hid hlt
  clear T1 hF1 ic cc hd Hsz nI nC hlt
  obtain ⟨ba, bk, bc, bw, ks, cs, co, P, hV, hE⟩ := H1
  have Q : PS F1 g ba bk bc bw (dropE y (i1, i2)) ks cs co w.heap.size (w.heap.size + 1) i1 i2 c w1 := ⟨P, I0, C0⟩
  have HV := Lib.hid hV
  have HE := Lib.hid hE
  clear P I0 C0 hV hE
  replace Q := Q.keep (Below.refl _ _).drew
  replace KT := Lib.hid (KT.out.trans (Turn.of_below (F := F) (Below.refl _ _).drew) (fun i hi => .inl hi))
  (refine wp_region_held_drew (S := (SD3' g #[.map (some ba), .map (some bk), .map (some bc), .map (some bw)] w.heap.size #[.int .i64 i1, .int .i64 i2] (w.heap.size + 1) #[.int .i64 c.kind, .int .i64 c.client, .int .i64 c.seq, .string c.key, .string c.val, .int .i64 c.rev])) (by kernel_rfl) ?_ (fun hHeld => ?_); (· exact ⟨Q.P.hd.cell, Q.I.cell, Q.C.cell⟩))
  (refine take_op (i := 0) (v := ?_) rfl (by kernel_rfl) (by kernel_rfl) (by kernel_rfl) (fun _ _ _ h => h) (by rfl) ?_ hHeld ?_; rotate_left; (· (intro wS hSw; (try dsimp only at hSw); go_simp; first | done | with_reducible rfl)); simp only [Act.put, List.setIfInBounds_toArray, List.set_cons_zero, List.set_cons_succ]); (refine take_op (i := 1) (v := ?_) rfl (by kernel_rfl) (by kernel_rfl) (by kernel_rfl) (fun _ _ _ h => h) (by rfl) ?_ hHeld ?_; rotate_left; (· (intro wS hSw; (try dsimp only at hSw); go_simp; first | done | with_reducible rfl)); simp only [Act.put, List.setIfInBounds_toArray, List.set_cons_zero, List.set_cons_succ]); (refine take_op (i := 2) (v := ?_) rfl (by kernel_rfl) (by kernel_rfl) (by kernel_rfl) (fun _ _ _ h => h) (by rfl) ?_ hHeld ?_; rotate_left; (· (intro wS hSw; (try dsimp only at hSw); go_simp; first | done | with_reducible rfl)); simp only [Act.put, List.setIfInBounds_toArray, List.set_cons_zero, List.set_cons_succ]); (refine take_op (i := 3) (v := ?_) rfl (by kernel_rfl) (by kernel_rfl) (by kernel_rfl) (fun _ _ _ h => h) (by rfl) ?_ hHeld ?_; rotate_left; (· (intro wS hSw; (try dsimp only at hSw); go_simp; first | done | with_reducible rfl)); simp only [Act.put, List.setIfInBounds_toArray, List.set_cons_zero, List.set_cons_succ]); (refine take_op (i := 4) (v := ?_) rfl (by kernel_rfl) (by kernel_rfl) (by kernel_rfl) (fun _ _ _ h => h) (by rfl) ?_ hHeld ?_; rotate_left; (· (intro wS hSw; (try dsimp only at hSw); go_simp; first | done | with_reducible rfl)); simp only [Act.put, List.setIfInBounds_toArray, List.set_cons_zero, List.set_cons_succ]); (refine take_op (i := 5) (v := ?_) rfl (by kernel_rfl) (by kernel_rfl) (by kernel_rfl) (fun _ _ _ h => h) (by rfl) ?_ hHeld ?_; rotate_left; (· (intro wS hSw; (try dsimp only at hSw); go_simp; first | done | with_reducible rfl)); simp only [Act.put, List.setIfInBounds_toArray, List.set_cons_zero, List.set_cons_succ]); (refine take_op (i := 6) (v := ?_) rfl (by kernel_rfl) (by kernel_rfl) (by kernel_rfl) (fun _ _ _ h => h) (by rfl) ?_ hHeld ?_; rotate_left; (· (intro wS hSw; (try dsimp only at hSw); go_simp; first | done | with_reducible rfl)); simp only [Act.put, List.setIfInBounds_toArray, List.set_cons_zero, List.set_cons_succ]); (refine take_op (i := 7) (v := ?_) rfl (by kernel_rfl) (by kernel_rfl) (by kernel_rfl) (fun _ _ _ h => h) (by rfl) ?_ hHeld ?_; rotate_left; (· (intro wS hSw; (try dsimp only at hSw); go_simp; first | done | with_reducible rfl)); simp only [Act.put, List.setIfInBounds_toArray, List.set_cons_zero, List.set_cons_succ])
  revert hHeld Q KT
  generalize World.drew _ = wd
  intro Q KT hHeld
  have hl1 : (dropE y (i1, i2)).length ≤ 1000000 := Nat.le_trans HE.out.2.1 hn
  obtain ⟨w2, hrun, hm2, ht2⟩ := Q.P.all.store (by rw [List.length_map]; unfold maxLen; omega) (c, s) Hwf.out
  have hy : outM ((dropE y (i1, i2)).map pA) (i1, i2) ++ [((i1, i2), (c, s))] = (putE y ⟨(i1, i2), c, s⟩).map pA := by
    rw [all_map_out, dropE_none (fun e he => (mem_dropE.1 he).2)]
    unfold putE
    rw [List.map_append]
    rfl
  rw [hy] at hm2
  simp only [allK] at hrun
  have Q2 : PS F1 g ba bk bc bw (putE y ⟨(i1, i2), c, s⟩) ks cs co w.heap.size (w.heap.size + 1) i1 i2 c w2 := ⟨Q.P.turnAll ht2 hm2, blk_turned Q.I Q.P.all ht2, blk_turned Q.C Q.P.all ht2⟩
  have hF1 : ∀ k, F1 k → F k ∨ w.heap.size ≤ k := fun k hk => (HF.out k hk).imp id (fun h => by omega)
  have KT2 := Lib.hid (KT.out.trans (Turn.of_map ht2) (fun i hi => by rw [hi]; exact hF1 _ Q.P.own.2.1))
  (refine call_op (i := 8) rfl (by kernel_rfl) (by rfl) (fun K hK => ?_); go_simp; skip; refine hK.out _ _ ⟨Q2.P.hd.cell, Q2.I.cell, Q2.C.cell⟩ (fun hHeld2 => ?_); clear hK K hHeld; have hHeld := hHeld2; clear hHeld2; (try simp only [Act.put, List.setIfInBounds_toArray, List.set_cons_zero, List.set_cons_succ]))
  (refine wpAnyH_done (by kernel_rfl) ?_ _)
  clear hHeld hrun hm2 ht2 hy Q KT
  go_upto_region 3 with fail
  replace Q2 := Q2.keep (Below.refl _ _).drew
  replace KT2 := Lib.hid (KT2.out.trans (Turn.of_below (F := F) (Below.refl _ _).drew) (fun i hi => .inl hi))
  have hks : ks.length ≤ 1000000 := Nat.le_trans HE.out.2.2.1 hn
  have hcs : cs.length ≤ 1000000 := Nat.le_trans HE.out.2.2.2 hn
  (refine wp_region_held_drew (S := (SD3' g #[.map (some ba), .map (some bk), .map (some bc), .map (some bw)] w.heap.size #[.int .i64 i1, .int .i64 i2] (w.heap.size + 1) #[.int .i64 c.kind, .int .i64 c.client, .int .i64 c.seq, .string c.key, .string c.val, .int .i64 c.rev])) (by kernel_rfl) ?_ (fun hHeld => ?_); (· exact ⟨Q2.P.hd.cell, Q2.I.cell, Q2.C.cell⟩))
  (refine take_op (i := 0) (v := ?_) rfl (by kernel_rfl) (by kernel_rfl) (by kernel_rfl) (fun _ _ _ h => h) (by rfl) ?_ hHeld ?_; rotate_left; (· (intro wS hSw; (try dsimp only at hSw); go_simp; first | done | with_reducible rfl)); simp only [Act.put, List.setIfInBounds_toArray, List.set_cons_zero, List.set_cons_succ]); (refine take_op (i := 1) (v := ?_) rfl (by kernel_rfl) (by kernel_rfl) (by kernel_rfl) (fun _ _ _ h => h) (by rfl) ?_ hHeld ?_; rotate_left; (· (intro wS hSw; (try dsimp only at hSw); go_simp; first | done | with_reducible rfl)); simp only [Act.put, List.setIfInBounds_toArray, List.set_cons_zero, List.set_cons_succ]); (refine take_op (i := 2) (v := ?_) rfl (by kernel_rfl) (by kernel_rfl) (by kernel_rfl) (fun _ _ _ h => h) (by rfl) ?_ hHeld ?_; rotate_left; (· (intro wS hSw; (try dsimp only at hSw); go_simp; first | done | with_reducible rfl)); simp only [Act.put, List.setIfInBounds_toArray, List.set_cons_zero, List.set_cons_succ]); (refine take_op (i := 3) (v := ?_) rfl (by kernel_rfl) (by kernel_rfl) (by kernel_rfl) (fun _ _ _ h => h) (by rfl) ?_ hHeld ?_; rotate_left; (· (intro wS hSw; (try dsimp only at hSw); go_simp; first | done | with_reducible rfl)); simp only [Act.put, List.setIfInBounds_toArray, List.set_cons_zero, List.set_cons_succ]); (refine take_op (i := 4) (v := ?_) rfl (by kernel_rfl) (by kernel_rfl) (by kernel_rfl) (fun _ _ _ h => h) (by rfl) ?_ hHeld ?_; rotate_left; (· (intro wS hSw; (try dsimp only at hSw); go_simp; first | done | with_reducible rfl)); simp only [Act.put, List.setIfInBounds_toArray, List.set_cons_zero, List.set_cons_succ]); (refine take_op (i := 5) (v := ?_) rfl (by kernel_rfl) (by kernel_rfl) (by kernel_rfl) (fun _ _ _ h => h) (by rfl) ?_ hHeld ?_; rotate_left; (· (intro wS hSw; (try dsimp only at hSw); go_simp; first | done | with_reducible rfl)); simp only [Act.put, List.setIfInBounds_toArray, List.set_cons_zero, List.set_cons_succ]); (refine take_op (i := 6) (v := ?_) rfl (by kernel_rfl) (by kernel_rfl) (by kernel_rfl) (fun _ _ _ h => h) (by rfl) ?_ hHeld ?_; rotate_left; (· (intro wS hSw; (try dsimp only at hSw); go_simp; first | done | with_reducible rfl)); simp only [Act.put, List.setIfInBounds_toArray, List.set_cons_zero, List.set_cons_succ])
  revert hHeld Q2 KT2
  generalize World.drew _ = wd2
  intro Q2 KT2 hHeld
  have call1 := Ins_any F1 g ba bk bc bw _ ks cs co c.key i1 i2 _ Q2.P Hc.out.key Hwf.out (by unfold maxLen; omega) (fun b hb => by have := HV.out.lenK (mem_grpK hb); unfold maxLen; omega)
  have nI1 : ¬ F1 w.heap.size := fun e => by rcases HF.out _ e with h | h; (have := Hlt.out _ h; omega); omega
  have nC1 : ¬ F1 (w.heap.size + 1) := fun e => by rcases HF.out _ e with h | h; (have := Hlt.out _ h; omega); omega
  have hs2 := KT2.out.size
  (refine call_op (i := 7) rfl (by kernel_rfl) (by rfl) (fun K hK => ?_); go_simp; (go_at_call 32; (with_reducible refine call1.mono ?_); rintro e w3 ⟨rfl, F2, b1, co1, ks', P3, hks3, hF2, T3⟩; have I3 := T3.blk Q2.I nI1; have C3 := T3.blk Q2.C nC1); refine hK.out _ _ ⟨P3.hd.cell, I3.cell, C3.cell⟩ (fun hHeld2 => ?_); clear hK K hHeld; have hHeld := hHeld2; clear hHeld2; (try simp only [Act.put, List.setIfInBounds_toArray, List.set_cons_zero, List.set_cons_succ]))
  (refine wpAnyH_done (by kernel_rfl) ?_ _)
  clear hHeld call1 hs2
  have hF12 : ∀ k, F2 k → F k ∨ w.heap.size ≤ k ∧ k ≠ w.heap.size ∧ k ≠ w.heap.size + 1 := fun k hk => by
    have hz := KT2.out.size
    rcases hF2 k hk with h | h
    · rcases HF.out k h with h | h
      · exact .inl h
      · exact .inr (by omega)
    · have := (Array.getElem?_eq_some_iff.1 (show wd2.heap[w.heap.size + 1]? = some _ from Q2.C)).1
      exact .inr (by omega)
  have KT3 := Lib.hid (KT2.out.trans T3 (fun i hi => hF1 i hi))
  have Q3 : PS F2 g ba bk bc bw (putE y ⟨(i1, i2), c, s⟩) ks' cs _ w.heap.size (w.heap.size + 1) i1 i2 c w3 := ⟨P3, I3, C3⟩
  have HK3 := Lib.hid hks3
  have HF2 := Lib.hid hF12
  clear P3 I3 C3 T3 Q2 KT2 hF2 hks3 hF12 nI1 nC1
  go_upto_region 4 with fail
  replace Q3 := Q3.keep (Below.refl _ _).drew
  replace KT3 := Lib.hid (KT3.out.trans (Turn.of_below (F := F) (Below.refl _ _).drew) (fun i hi => .inl hi))
  (refine wp_region_held_drew (S := (SD3' g #[.map (some ba), .map (some bk), .map (some bc), .map (some bw)] w.heap.size #[.int .i64 i1, .int .i64 i2] (w.heap.size + 1) #[.int .i64 c.kind, .int .i64 c.client, .int .i64 c.seq, .string c.key, .string c.val, .int .i64 c.rev])) (by kernel_rfl) ?_ (fun hHeld => ?_); (· exact ⟨Q3.P.hd.cell, Q3.I.cell, Q3.C.cell⟩))
  (refine take_op (i := 0) (v := ?_) rfl (by kernel_rfl) (by kernel_rfl) (by kernel_rfl) (fun _ _ _ h => h) (by rfl) ?_ hHeld ?_; rotate_left; (· (intro wS hSw; (try dsimp only at hSw); go_simp; first | done | with_reducible rfl)); simp only [Act.put, List.setIfInBounds_toArray, List.set_cons_zero, List.set_cons_succ]); (refine take_op (i := 1) (v := ?_) rfl (by kernel_rfl) (by kernel_rfl) (by kernel_rfl) (fun _ _ _ h => h) (by rfl) ?_ hHeld ?_; rotate_left; (· (intro wS hSw; (try dsimp only at hSw); go_simp; first | done | with_reducible rfl)); simp only [Act.put, List.setIfInBounds_toArray, List.set_cons_zero, List.set_cons_succ]); (refine take_op (i := 2) (v := ?_) rfl (by kernel_rfl) (by kernel_rfl) (by kernel_rfl) (fun _ _ _ h => h) (by rfl) ?_ hHeld ?_; rotate_left; (· (intro wS hSw; (try dsimp only at hSw); go_simp; first | done | with_reducible rfl)); simp only [Act.put, List.setIfInBounds_toArray, List.set_cons_zero, List.set_cons_succ]); (refine take_op (i := 3) (v := ?_) rfl (by kernel_rfl) (by kernel_rfl) (by kernel_rfl) (fun _ _ _ h => h) (by rfl) ?_ hHeld ?_; rotate_left; (· (intro wS hSw; (try dsimp only at hSw); go_simp; first | done | with_reducible rfl)); simp only [Act.put, List.setIfInBounds_toArray, List.set_cons_zero, List.set_cons_succ]); (refine take_op (i := 4) (v := ?_) rfl (by kernel_rfl) (by kernel_rfl) (by kernel_rfl) (fun _ _ _ h => h) (by rfl) ?_ hHeld ?_; rotate_left; (· (intro wS hSw; (try dsimp only at hSw); go_simp; first | done | with_reducible rfl)); simp only [Act.put, List.setIfInBounds_toArray, List.set_cons_zero, List.set_cons_succ]); (refine take_op (i := 5) (v := ?_) rfl (by kernel_rfl) (by kernel_rfl) (by kernel_rfl) (fun _ _ _ h => h) (by rfl) ?_ hHeld ?_; rotate_left; (· (intro wS hSw; (try dsimp only at hSw); go_simp; first | done | with_reducible rfl)); simp only [Act.put, List.setIfInBounds_toArray, List.set_cons_zero, List.set_cons_succ]); (refine take_op (i := 6) (v := ?_) rfl (by kernel_rfl) (by kernel_rfl) (by kernel_rfl) (fun _ _ _ h => h) (by rfl) ?_ hHeld ?_; rotate_left; (· (intro wS hSw; (try dsimp only at hSw); go_simp; first | done | with_reducible rfl)); simp only [Act.put, List.setIfInBounds_toArray, List.set_cons_zero, List.set_cons_succ])
  revert hHeld Q3 KT3
  generalize World.drew _ = wd3
  intro Q3 KT3 hHeld
  have nI1 : ¬ F2 w.heap.size := fun e => by rcases HF2.out _ e with h | h; (have := Hlt.out _ h; omega); omega
  have nC1 : ¬ F2 (w.heap.size + 1) := fun e => by rcases HF2.out _ e with h | h; (have := Hlt.out _ h; omega); omega
  have hlen : ∀ b, (c.client, b) ∈ cs → (upd co1 b1 (addI (co1 b1) (i1, i2)) b).length < maxLen := fun b hb => by
    have hm : b ∈ grps bw ks cs := mem_grpC hb
    have hne : b ≠ b1 := by
      rcases HK3.out with ⟨_, _, hk⟩ | ⟨_, _, _, hk⟩
      · exact fun e => HV.out.apart.2.2.1 _ hk _ hb e.symm
      · exact fun e => hk (e ▸ hm)
    rw [upd_ne hne]
    have h1 : co1 b = co b := by
      rcases HK3.out with ⟨_, rfl, _⟩ | ⟨_, rfl, _⟩
      · rfl
      · rw [upd_ne hne]
    rw [h1]
    have := HV.out.lenK hm
    unfold maxLen
    omega
  have call2 := Ini_any F2 g ba bk bc bw _ ks' cs _ c.client i1 i2 _ Q3.P Hc.out.client Hwf.out (by unfold maxLen; omega) hlen
  (refine call_op (i := 7) rfl (by kernel_rfl) (by rfl) (fun K hK => ?_); go_simp; (go_at_call 33; (with_reducible refine call2.mono ?_); rintro e w4 ⟨rfl, F3, b2, co3, cs', P4, hcs4, hF3, T4⟩; have I4 := T4.blk Q3.I nI1; have C4 := T4.blk Q3.C nC1); refine hK.out _ _ ⟨P4.hd.cell, I4.cell, C4.cell⟩ (fun hHeld2 => ?_); clear hK K hHeld; have hHeld := hHeld2; clear hHeld2; (try simp only [Act.put, List.setIfInBounds_toArray, List.set_cons_zero, List.set_cons_succ]))
  (refine wpAnyH_done (by kernel_rfl) ?_ _)
  have hput := (put_inv (e := ⟨(i1, i2), c, s⟩) HV.out (fun x hx => (mem_dropE.1 hx).2) (b1 := b1) (b2 := b2) (ks' := ks') (cs' := cs') (co1 := co1) (co3 := co3) HK3.out hcs4)
  have FINV := Lib.hid hput.1
  have hkl : ks'.length ≤ n + 1 := by
    rcases HK3.out with ⟨rfl, _⟩ | ⟨rfl, _⟩
    · have := HE.out.2.2.1; omega
    · have := HE.out.2.2.1; rw [List.length_append]; simp only [List.length_cons, List.length_nil]; omega
  have hcl : cs'.length ≤ n + 1 := by
    rcases hcs4 with ⟨rfl, _⟩ | ⟨rfl, _⟩
    · have := HE.out.2.2.2; omega
    · have := HE.out.2.2.2; rw [List.length_append]; simp only [List.length_cons, List.length_nil]; omega
  have HWL := Lib.hid (show (upd co3 b2 (addI (co3 b2) (i1, i2)) bw).length < maxLen from by have := hput.2; simp only at this; unfold maxLen; omega)
  have HEN := Lib.hid (show (∀ e ∈ putE y ⟨(i1, i2), c, s⟩, EntOk e) ∧ (putE y ⟨(i1, i2), c, s⟩).length ≤ n + 1 ∧ ks'.length ≤ n + 1 ∧ cs'.length ≤ n + 1 from ⟨fun e he => by
      rcases List.mem_append.1 he with he | he
      · exact HE.out.1 e he
      · simp at he; subst he; exact ⟨Hwf.out, Hc.out, Hs.out⟩,
    by unfold putE; rw [List.length_append]; have := HE.out.2.1; simp only [List.length_cons, List.length_nil]; omega, hkl, hcl⟩)
  have HF3 := Lib.hid (show ∀ k, F3 k → F k ∨ w.heap.size ≤ k from fun k hk => by
    rcases hF3 k hk with h | h
    · exact (HF2.out k h).imp id fun h => h.1
    · have := KT3.out.size; exact .inr (by omega))
  have KT4 := Lib.hid (KT3.out.trans T4 (fun i hi => (HF2.out i hi).imp id fun h => h.1))
  have Q4 : PS F3 g ba bk bc bw (putE y ⟨(i1, i2), c, s⟩) ks' cs' _ w.heap.size (w.heap.size + 1) i1 i2 c w4 := ⟨P4, I4, C4⟩
  clear hput
  clear hHeld call2 hlen P4 I4 C4 T4 Q3 KT3 hcs4 hF3 nI1 nC1 HK3 HF2 hkl hcl hl1 hks hcs hF1 HE HV Hc Hs Hlt
  have c4 := Q4.C.cell
  by_cases hw : isWideC c = true
  · rw [show (decide (c.kind = 5) || decide (c.kind = 6)) = true from hw] at hiw
    simp only [hw, if_true] at FINV
    go_upto_region 6 with (go_at_call 34; (with_reducible refine (hiw _).mono ?_); rintro e w5 ⟨rfl, hb5⟩; replace Q4 := Q4.keep hb5; replace KT4 := Lib.hid (KT4.out.trans (Turn.of_below (F := F) hb5) (fun i hi => .inl hi)); clear c4 hb5)
    replace Q4 := Q4.keep (Below.refl _ _).drew
    replace KT4 := Lib.hid (KT4.out.trans (Turn.of_below (F := F) (Below.refl _ _).drew) (fun i hi => .inl hi))
    (refine wp_region_held_drew (S := (SD3' g #[.map (some ba), .map (some bk), .map (some bc), .map (some bw)] w.heap.size #[.int .i64 i1, .int .i64 i2] (w.heap.size + 1) #[.int .i64 c.kind, .int .i64 c.client, .int .i64 c.seq, .string c.key, .string c.val, .int .i64 c.rev])) (by kernel_rfl) ?_ (fun hHeld => ?_); (· exact ⟨Q4.P.hd.cell, Q4.I.cell, Q4.C.cell⟩))
    (refine take_op (i := 0) (v := ?_) rfl (by kernel_rfl) (by kernel_rfl) (by kernel_rfl) (fun _ _ _ h => h) (by rfl) ?_ hHeld ?_; rotate_left; (· (intro wS hSw; (try dsimp only at hSw); go_simp; first | done | with_reducible rfl)); simp only [Act.put, List.setIfInBounds_toArray, List.set_cons_zero, List.set_cons_succ]); (refine take_op (i := 1) (v := ?_) rfl (by kernel_rfl) (by kernel_rfl) (by kernel_rfl) (fun _ _ _ h => h) (by rfl) ?_ hHeld ?_; rotate_left; (· (intro wS hSw; (try dsimp only at hSw); go_simp; first | done | with_reducible rfl)); simp only [Act.put, List.setIfInBounds_toArray, List.set_cons_zero, List.set_cons_succ]); (refine take_op (i := 2) (v := ?_) rfl (by kernel_rfl) (by kernel_rfl) (by kernel_rfl) (fun _ _ _ h => h) (by rfl) ?_ hHeld ?_; rotate_left; (· (intro wS hSw; (try dsimp only at hSw); go_simp; first | done | with_reducible rfl)); simp only [Act.put, List.setIfInBounds_toArray, List.set_cons_zero, List.set_cons_succ]); (refine take_op (i := 3) (v := ?_) rfl (by kernel_rfl) (by kernel_rfl) (by kernel_rfl) (fun _ _ _ h => h) (by rfl) ?_ hHeld ?_; rotate_left; (· (intro wS hSw; (try dsimp only at hSw); go_simp; first | done | with_reducible rfl)); simp only [Act.put, List.setIfInBounds_toArray, List.set_cons_zero, List.set_cons_succ]); (refine take_op (i := 4) (v := ?_) rfl (by kernel_rfl) (by kernel_rfl) (by kernel_rfl) (fun _ _ _ h => h) (by rfl) ?_ hHeld ?_; rotate_left; (· (intro wS hSw; (try dsimp only at hSw); go_simp; first | done | with_reducible rfl)); simp only [Act.put, List.setIfInBounds_toArray, List.set_cons_zero, List.set_cons_succ])
    revert hHeld Q4 KT4
    generalize World.drew _ = wd4
    intro Q4 KT4 hHeld
    obtain ⟨w6, hrun, hm6, ht6⟩ := (Q4.P.grp bw mem_grpW).store (by rw [List.length_map]; exact HWL.out) true Hwf.out
    rw [map_addI] at hm6
    simp only [grpK] at hrun
    have Q6 := Q4.P.turnGrp mem_grpW ht6 hm6
    have KT6 := Lib.hid (KT4.out.trans (Turn.of_map ht6) (fun i hi => by rw [hi]; exact HF3.out _ (Q4.P.own.2.2.2.2 _ mem_grpW)))
    (refine call_op (i := 5) rfl (by kernel_rfl) (by rfl) (fun K hK => ?_); go_simp; skip; refine hK.out _ _ ⟨Q6.hd.cell, (blk_turned Q4.I (Q4.P.grp _ mem_grpW) ht6).cell, (blk_turned Q4.C (Q4.P.grp _ mem_grpW) ht6).cell⟩ (fun hHeld2 => ?_); clear hK K hHeld; have hHeld := hHeld2; clear hHeld2; (try simp only [Act.put, List.setIfInBounds_toArray, List.set_cons_zero, List.set_cons_succ]))
    (refine wpAnyH_done (by kernel_rfl) ?_ _)
    clear hHeld hrun hm6 ht6 Q4 KT4
    go_wp2_with fail
    go_end0
    exact ⟨rfl, F3, ⟨_, _, _, _, _, _, _, Q6, FINV.out, HEN.out⟩, HF3.out, KT6.out⟩
  · rw [show (decide (c.kind = 5) || decide (c.kind = 6)) = false from by simpa [isWideC] using hw] at hiw
    simp only [hw, if_false] at FINV
    go_wp2_with (go_at_call 34; (with_reducible refine (hiw _).mono ?_); rintro e w5 ⟨rfl, hb5⟩; replace Q4 := Q4.keep hb5; replace KT4 := Lib.hid (KT4.out.trans (Turn.of_below (F := F) hb5) (fun i hi => .inl hi)); clear c4 hb5)
    go_end0
    exact ⟨rfl, F3, ⟨_, _, _, _, _, _, _, Q4.P, FINV.out, HEN.out⟩, HF3.out, KT4.out⟩
end Go.Proofs.Ytpdfbkkhmfnnjaa

namespace Go.Proofs.Ytpdfbkkhmfnnjaa
open Go.RowKit
set_option linter.unusedVariables false
set_option linter.unusedSimpArgs false
set_option maxRecDepth 20000
attribute [local go_sem ↓] Go.wp_at_zero Go.wp_at_succ
attribute [local go_sem] World.cell?_alloc_some frozen_alloc_some
open Go.Maps

/-- A slice of groups, nil ones among them. -/
def GRow (w : World) (A : Option Addr) (m : Nat) (gl : List (Option Nat)) : Prop :=
  m = gl.length ∧ m ≤ maxLen ∧ ∀ (i : Nat) (o : Option Nat), gl[i]? = some o → ∃ b off, A = some ⟨b, off, none⟩ ∧ w.cell? ⟨b, off + i, none⟩ = some (.map o)
theorem GRow.keep {w w' : World} {A : Option Addr} {m : Nat} {gl : List (Option Nat)} (h : GRow w A m gl) (hb : Below w.heap.size w w') : GRow w' A m gl :=
  ⟨h.1, h.2.1, fun i o hi => by
    obtain ⟨b, off, e, hc⟩ := h.2.2 i o hi
    exact ⟨b, off, e, cell_keep hb hc⟩⟩
theorem ownX_keep {w w' : World} {base : Nat} {e : TypeId} {size : Nat} {v : Value} {n : Nat} {xs : List Value} (h : w.ownsRow base e size v n xs) (hb : Below w.heap.size w w') : w'.ownsRow base e size v n xs := by
  refine ⟨h.1, ?_⟩
  rcases h.2 with h0 | ⟨g, cap, cur, e1, hbs, hg, rest⟩
  · exact .inl h0
  · exact .inr ⟨g, cap, cur, e1, hbs, (hb.block g (Array.getElem?_eq_some_iff.1 hg).1).trans hg, rest⟩
theorem ownX_form {w : World} {base : Nat} {e : TypeId} {size : Nat} {v : Value} {n : Nat} {xs : List Value} (h : w.ownsRow base e size v n xs) : ∃ A c, v = .slice A n c ∧ n ≤ c ∧ c ≤ maxLen := by
  rcases h.2 with ⟨rfl, rfl⟩ | ⟨g, cap, cur, rfl, _, _, hle, hm, _⟩
  · exact ⟨none, 0, rfl, Nat.le_refl _, Nat.zero_le _⟩
  · exact ⟨_, cap, rfl, hle, hm⟩
theorem ownX_ne {w : World} {base : Nat} {e : TypeId} {size : Nat} {v : Value} {n : Nat} {xs : List Value} (h : w.ownsRow base e size v n xs) {k : Nat} (hk : k < base) : some k ≠ v.ownBlock := by
  rcases h.2 with ⟨rfl, rfl⟩ | ⟨g, cap, cur, rfl, hb, _⟩
  · intro e; cases e
  · intro e
    simp [Value.ownBlock] at e
    omega
theorem grow_of_own {w : World} {base : Nat} {e : TypeId} {A : Option Addr} {m c : Nat} {gl : List (Option Nat)} (h : w.ownsRow base e 1 (.slice A m c) m (gl.map .map)) (hm : m = gl.length) (hl : m ≤ maxLen) : GRow w A m gl := by
  refine ⟨hm, hl, fun i o hi => ?_⟩
  have him : i < m := by rw [hm]; exact (List.getElem?_eq_some_iff.1 hi).1
  rcases h.2 with ⟨_, h0⟩ | ⟨g, cap, cur, hv, hb, hg, hn, hcm, hs, ht⟩
  · omega
  · injection hv with hA _ _
    subst hA
    refine ⟨g, 0, rfl, ?_⟩
    have hf : (gl.map Value.map)[i]? = some (.map o) := by rw [List.getElem?_map, hi]; rfl
    rw [← ht, List.getElem?_take] at hf
    rw [cell_of_row w g (0 + i) cur e (0, 0) hg, ← Array.getElem?_toList, Nat.zero_add]
    split at hf
    · exact hf
    · cases hf
theorem grpinfo : ∃ i, Try.prog.info? 74 = some i ∧ i.zero = some (.map none) ∧ i.size = 1 ∧ i.bytes = 8 := by
  have h : (Try.prog.info? 74).map (fun i => (i.zero, i.size, i.bytes)) = some (some (.map none), 1, 8) := by kernel_rfl
  obtain ⟨i, hi, e⟩ := Option.map_eq_some_iff.1 h
  simp only [Prod.mk.injEq] at e
  exact ⟨i, hi, e.1, e.2.1, e.2.2⟩
/-- What near tells: groups; whoever meets is in one of them. -/
def NearOk (y : List EntT) (c : CmdT) (bw : Nat) (ks : List (ByteArray × Nat)) (cs : List (Int × Nat)) (co : Nat → List IdP) (gl : List (Option Nat)) : Prop :=
  (∀ b, some b ∈ gl → b ∈ grps bw ks cs) ∧ (∀ e ∈ y, ∀ but, meetE c but e = true → ∃ b, some b ∈ gl ∧ e.i ∈ co b) ∧ gl.length ≤ ks.length + 3
theorem near_wide {y : List EntT} {c : CmdT} {bw : Nat} {ks : List (ByteArray × Nat)} {cs : List (Int × Nat)} {co : Nat → List IdP} (h : InvX y ks cs bw co) {l : List (ByteArray × Option Nat)} (hl : l.Perm (ks.map pK)) : NearOk y c bw ks cs co (l.map (·.2)) := by
  refine ⟨fun b hb => ?_, fun e he but _ => ?_, by rw [List.length_map, hl.length_eq, List.length_map]; omega⟩
  · obtain ⟨t, ht, e⟩ := List.mem_map.1 hb
    obtain ⟨⟨k, b'⟩, hu, rfl⟩ := List.mem_map.1 (hl.mem_iff.1 ht)
    simp only [Option.some.injEq] at e
    subst e
    exact mem_grpK hu
  · obtain ⟨b, hb⟩ := h.kall e he
    exact ⟨b, List.mem_map.2 ⟨(e.c.key, some b), hl.mem_iff.2 (List.mem_map.2 ⟨_, hb, rfl⟩), rfl⟩, (h.kin _ hb _).2 ⟨e, he, rfl, rfl⟩⟩
theorem near_few {y : List EntT} {c : CmdT} {bw : Nat} {ks : List (ByteArray × Nat)} {cs : List (Int × Nat)} {co : Nat → List IdP} (h : InvX y ks cs bw co) (hw : isWideC c = false) {o1 o2 : Option Nat} (h1 : ∀ b, o1 = some b → (c.key, b) ∈ ks) (h2 : ∀ b, o2 = some b → (c.client, b) ∈ cs)
    (g1 : ∀ b, (c.key, b) ∈ ks → o1 = some b) (g2 : ∀ b, (c.client, b) ∈ cs → o2 = some b) : NearOk y c bw ks cs co [o1, o2, some bw] := by
  refine ⟨fun b hb => ?_, fun e he but hm => ?_, by simp⟩
  · simp only [List.mem_cons, List.not_mem_nil, or_false, Option.some.injEq] at hb
    rcases hb with hb | hb | hb
    · exact mem_grpK (h1 b hb.symm)
    · exact mem_grpC (h2 b hb.symm)
    · rw [hb]; exact mem_grpW
  · rcases meet_near hm hw with h3 | h3 | h3
    · obtain ⟨b, hb⟩ := h.kall e he
      exact ⟨b, by rw [g1 b (h3 ▸ hb)]; simp, (h.kin _ hb _).2 ⟨e, he, rfl, rfl⟩⟩
    · obtain ⟨b, hb⟩ := h.call e he
      exact ⟨b, by rw [g2 b (h3 ▸ hb)]; simp, (h.cin _ hb _).2 ⟨e, he, rfl, rfl⟩⟩
    · exact ⟨bw, by simp, (h.win _).2 ⟨e, he, rfl, h3⟩⟩
def Nears (w : World) (y : List EntT) (c : CmdT) (bw : Nat) (ks : List (ByteArray × Nat)) (cs : List (Int × Nat)) (co : Nat → List IdP) (e : Ending) (w' : World) : Prop :=
  ∃ A m cp gl, e = .returned (.slice A m cp) ∧ m ≤ cp ∧ GRow w' A m gl ∧ NearOk y c bw ks cs co gl ∧ Below w.heap.size w w' ∧ ∀ ad, A = some ad → w.heap.size ≤ ad.block ∧ ad.block < w'.heap.size
abbrev SN (g : Nat) (cs : Array Value) (h : Nat) (ds : Array Value) (b1 : Nat) (k1 : ByteArray) (o1 : Option Nat) (b2 : Nat) (k2 : Int) (o2 : Option Nat) (wx : World) : Prop := (∀ i, wx.cell? ⟨g, i, none⟩ = cs[i]?) ∧ (∀ i, wx.cell? ⟨h, i, none⟩ = ds[i]?) ∧ (Instr.lookup 71 (.map (some b1)) (.string k1) false).run Try.prog wx = .ok (.map o1) wx ∧ (Instr.lookup 72 (.map (some b2)) (.int .i64 k2) false).run Try.prog wx = .ok (.map o2) wx
set_option maxHeartbeats 4000000 in
theorem near_any (F : Nat → Prop) (g ba bk bc bw : Nat) (y : List EntT) (ks : List (ByteArray × Nat)) (cs : List (Int × Nat)) (co : Nat → List IdP) (c : CmdT) (w : World) (h : IxG w F g ba bk bc bw y ks cs co) (hV : InvX y ks cs bw co) (hc : c.Ok) (hn : ks.length ≤ 1000000) :
    Calls Try.prog 65 #[.pointer (some ⟨g, 0, none⟩), c.v] w (Nears w y c bw ks cs co) := by
  have hiw := fun W => iswide_any c.kind c.client c.seq c.key c.val c.rev W
  have hb := below_one (w := w) (.cells #[.int .i64 c.kind, .int .i64 c.client, .int .i64 c.seq, .string c.key, .string c.val, .int .i64 c.rev] 24)
  have C0 := Blk.new w 24 #[.int .i64 c.kind, .int .i64 c.client, .int .i64 c.seq, .string c.key, .string c.val, .int .i64 c.rev]
  have P := h.keep hb
  have HV := Lib.hid hV
  have HB := Lib.hid hb
  clear hV h hb
  unfold CmdT.v
  have c0 := C0.cell
  by_cases hw : isWideC c = true
  · rw [show (decide (c.kind = 5) || decide (c.kind = 6)) = true from hw] at hiw
    clear hw
    go_enter Try.func65, Try.ntmps65
    go_upto_region 3 with (go_at_call 34; (with_reducible refine (hiw _).mono ?_); rintro e w1 ⟨rfl, hb1⟩; replace P := P.keep hb1; replace HB := Lib.hid (below_call HB.out hb1 (by simp)); clear c0 C0 hb1)
    have hm := P.keys
    obtain ⟨i0, hi0, hz0, hz1, hz2⟩ := grpinfo
    have pc := P.hd.cell 1
    go_wp2_with (at_range; refine wpList_range_g rfl _ rfl _ keyK rfl bk (ks.map pK) w1.heap.size rfl rfl hm ?_; intro w0 hr0 hb0 hs0)
    go_frame
    have P0 := Lib.hid P
    have hz := HB.out.size
    have HZ1 := Lib.hid hz
    replace HB := Lib.hid (below_call HB.out hb0 HB.out.size)
    have HBK := Lib.hid (show bk < w1.heap.size from P.keys.lt)
    clear hm pc P
    go_loopw [5] (fun s5 wr => ∃ (l : List (ByteArray × Option Nat)) (cc j c' : Nat) (A' : Option Addr), s5 = .slice A' j c' ∧ j = l.length ∧ RangeM keyK wr bk w1.heap.size (ks.map pK) l cc ∧ wr.ownsRow (w1.heap.size + 1) 74 1 (.slice A' j c') j (l.map fun t => .map t.2) ∧ Below w.heap.size w wr) (fun _ wr => wr.rangeLeft bk w1.heap.size)
    case atStart => exact ⟨[], _, 0, 0, none, rfl, rfl, hr0, World.ownsRow_nil _ _ _ _, HB.out⟩
    case round =>
      obtain ⟨l, cc, _, c', A', rfl, rfl, hr, hown, hbr⟩ := hrel
      go_wp2_with (at_next; refine wpList_next_g rfl _ rfl _ rfl bk w1.heap.size cc (ks.map pK) l rfl hr ?_ ?_)
      · intro hall
        have FIN := Lib.hid (near_wide (c := c) HV.out hall.out)
        have hjn : l.length ≤ 1000000 := by rw [hall.out.length_eq, List.length_map]; exact hn
        obtain ⟨A9, c9, e9, hle, _⟩ := ownX_form hown
        injection e9 with e9a e9b e9c
        subst e9a e9c
        have GR := Lib.hid (grow_of_own (gl := l.map (·.2)) (by rw [List.map_map]; exact hown) (by rw [List.length_map]) (by unfold maxLen; omega))
        have FR := Lib.hid (show ∀ ad, A' = some ad → w.heap.size ≤ ad.block ∧ ad.block < wr.heap.size from fun ad e => by
          have h1 := hown.lt ad.block (by rw [e]; rfl)
          have := HZ1.out
          omega)
        clear hown hr hall
        go_wp2_with fail
        go_ret
        exact ⟨A', l.length, c', _, rfl, hle, GR.out, FIN.out, hbr, FR.out⟩
      · intro s o w2 c1 hmem hr1 hlt hg hen
        have hb2 := below_own hbr hg hz (by have := hbr.size; omega)
        have hown2 : w2.ownsRow (w1.heap.size + 1) 74 1 (.slice A' l.length c') l.length (l.map fun t => .map t.2) := hown.kept hg (.inr (fun e => ownX_ne hown (Nat.lt_succ_self _) e.symm))
        have hjn : l.length ≤ 1000000 := by have := hlt.out.2; omega
        have Hm := Lib.hid (show w2.rangeLeft bk w1.heap.size < wr.rangeLeft bk w1.heap.size by rw [hr1.left_eq, hr.left_eq]; exact hlt.out.1)
        have hzw := hb2.size
        have hzr := hr1.lt
        clear hmem hlt hg hr hown
        simp only [keyK] at hen
        have hsrc := src_one (w := w2) (e := 74) (u := .map o) (by cases o <;> rfl)
        have howA := ownX_keep hown2 (below_one (.cells #[.map o] 74))
        go_wp2_with ((at_builtin; go_loud (refine wpList_app _ rfl (.tmp 19) (.tmp 21) 111 rfl _ 74 i0 _ 1 8 Try.underlying111 hi0 hz0 hz1 hz2 rfl (by omega) _ _ _ rfl howA _ _ _ _ rfl hsrc ?h63 ?hby ?hbase ?_); (case h63 => (unfold maxLen; first | omega | (simp; done) | (simp; omega))); (case hby => first | omega | (simp; done) | (simp; omega)); (case hbase => first | omega | (simp; done) | (simp; omega)); intro v9 w9 hownw9 hgroww9 hatw9 holdw9))
        obtain ⟨A8, c8, rfl, _, _⟩ := ownX_form hownw9
        have k1' := below_one (w := w2) (.cells #[.map o] 74)
        have hob := fun (k : Nat) (hk : k < w1.heap.size + 1) => ownX_ne (ownX_keep hown2 k1') hk
        go_roundw
        case rel => exact ⟨l ++ [(s, o)], c1, l.length + 1, c8, A8, rfl, by rw [List.length_append]; rfl, (hr1.keep k1').kept hgroww9 (hob _ (by have := HBK.out; omega)) (hob _ (by omega)), by rw [List.map_append]; exact hownw9, below_app (below_call hb2 k1' hb2.size) (ownX_keep hown2 k1') hgroww9 (by omega) (by simp; omega)⟩
        case measure => rw [RangeM.left_eq ((hr1.keep k1').kept hgroww9 (hob _ (by have := HBK.out; omega)) (hob _ (by omega)))]; rw [hr1.left_eq] at Hm; exact Hm.out
  · have hw' : isWideC c = false := by simpa using hw
    rw [show (decide (c.kind = 5) || decide (c.kind = 6)) = false from hw'] at hiw
    have hk1 := P.keys.look (s := c.key) hc.key
    have hk2 := P.clis.look (s := c.client) hc.client
    obtain ⟨o1, ho1⟩ : ∃ o, getM keyK.e0 (ks.map pK) c.key = o := ⟨_, rfl⟩
    obtain ⟨o2, ho2⟩ : ∃ o, getM cliK.e0 (cs.map pC) c.client = o := ⟨_, rfl⟩
    have gk : ∀ b, (c.key, b) ∈ ks → o1 = some b := fun b hb => by rw [← ho1]; exact getM_hit (z := keyK.e0) P.keys.nd (List.mem_map.2 ⟨_, hb, rfl⟩ : pK (c.key, b) ∈ ks.map pK)
    have gc : ∀ b, (c.client, b) ∈ cs → o2 = some b := fun b hb => by rw [← ho2]; exact getM_hit (z := cliK.e0) P.clis.nd (List.mem_map.2 ⟨_, hb, rfl⟩ : pC (c.client, b) ∈ cs.map pC)
    have fk : ∀ b, o1 = some b → (c.key, b) ∈ ks := fun b hb => by
      cases hh : hasM (ks.map pK) c.key
      · rw [getM_miss hh] at ho1; rw [← ho1] at hb; cases hb
      · obtain ⟨b', hb'⟩ := hasM_pK hh
        rw [gk b' hb'] at hb
        injection hb with hb
        rw [← hb]; exact hb'
    have fc : ∀ b, o2 = some b → (c.client, b) ∈ cs := fun b hb => by
      cases hh : hasM (cs.map pC) c.client
      · rw [getM_miss hh] at ho2; rw [← ho2] at hb; cases hb
      · obtain ⟨b', hb'⟩ := hasM_pK hh
        rw [gc b' hb'] at hb
        injection hb with hb
        rw [← hb]; exact hb'
    have FIN := Lib.hid (near_few HV.out hw' fk fc gk gc)
    have Hl1 := Lib.hid (show ∀ W, IxG W F g ba bk bc bw y ks cs co → (Instr.lookup 71 (.map (some bk)) (.string c.key) false).run Try.prog W = .ok (.map o1) W from fun W h => by rw [← ho1]; exact h.keys.look (s := c.key) hc.key)
    have Hl2 := Lib.hid (show ∀ W, IxG W F g ba bk bc bw y ks cs co → (Instr.lookup 72 (.map (some bc)) (.int .i64 c.client) false).run Try.prog W = .ok (.map o2) W from fun W h => by rw [← ho2]; exact h.clis.look (s := c.client) hc.client)
    clear hk1 hk2 ho1 ho2 gk gc fk fc hw hw' hn
    go_enter Try.func65, Try.ntmps65
    go_upto_region 8 with (go_at_call 34; (with_reducible refine (hiw _).mono ?_); rintro e w1 ⟨rfl, hb1⟩; replace P := P.keep hb1; replace HB := Lib.hid (below_call HB.out hb1 (by simp)); replace C0 := Blk.keep C0 hb1; clear c0 hb1)
    replace P := P.keep (Below.refl _ _).drew
    replace C0 := Blk.keep C0 (Below.refl _ _).drew
    replace HB := Lib.hid HB.out.drew
    (refine wp_region_held_drew (S := (SN g #[.map (some ba), .map (some bk), .map (some bc), .map (some bw)] w.heap.size #[.int .i64 c.kind, .int .i64 c.client, .int .i64 c.seq, .string c.key, .string c.val, .int .i64 c.rev] bk c.key o1 bc c.client o2)) (by kernel_rfl) ?_ (fun hHeld => ?_); (· exact ⟨P.hd.cell, C0.cell, Hl1.out _ P, Hl2.out _ P⟩))
    (refine take_op (i := 0) (v := ?_) rfl (by kernel_rfl) (by kernel_rfl) (by kernel_rfl) (fun _ _ _ h => h) (by rfl) ?_ hHeld ?_; rotate_left; (· (intro wS hSw; (try dsimp only at hSw); go_simp; first | done | with_reducible rfl)); simp only [Act.put, List.setIfInBounds_toArray, List.set_cons_zero, List.set_cons_succ]); (refine take_op (i := 1) (v := ?_) rfl (by kernel_rfl) (by kernel_rfl) (by kernel_rfl) (fun _ _ _ h => h) (by rfl) ?_ hHeld ?_; rotate_left; (· (intro wS hSw; (try dsimp only at hSw); go_simp; first | done | with_reducible rfl)); simp only [Act.put, List.setIfInBounds_toArray, List.set_cons_zero, List.set_cons_succ]); (refine take_op (i := 2) (v := ?_) rfl (by kernel_rfl) (by kernel_rfl) (by kernel_rfl) (fun _ _ _ h => h) (by rfl) ?_ hHeld ?_; rotate_left; (· (intro wS hSw; (try dsimp only at hSw); go_simp; first | done | with_reducible rfl)); simp only [Act.put, List.setIfInBounds_toArray, List.set_cons_zero, List.set_cons_succ]); (refine take_op (i := 3) (v := ?_) rfl (by kernel_rfl) (by kernel_rfl) (by kernel_rfl) (fun _ _ _ h => h) (by rfl) ?_ hHeld ?_; rotate_left; (· (intro wS hSw; (try dsimp only at hSw); go_simp; first | done | with_reducible rfl)); simp only [Act.put, List.setIfInBounds_toArray, List.set_cons_zero, List.set_cons_succ]); (refine take_op (i := 4) (v := ?_) rfl (by kernel_rfl) (by kernel_rfl) (by kernel_rfl) (fun _ _ _ h => h) (by rfl) ?_ hHeld ?_; rotate_left; (· (intro wS hSw; (try dsimp only at hSw); go_simp; first | done | with_reducible rfl)); simp only [Act.put, List.setIfInBounds_toArray, List.set_cons_zero, List.set_cons_succ]); (refine take_op (i := 5) (v := ?_) rfl (by kernel_rfl) (by kernel_rfl) (by kernel_rfl) (fun _ _ _ h => h) (by rfl) ?_ hHeld ?_; rotate_left; (· (intro wS hSw; (try dsimp only at hSw); go_simp; first | done | with_reducible rfl)); simp only [Act.put, List.setIfInBounds_toArray, List.set_cons_zero, List.set_cons_succ]); (refine take_op (i := 6) (v := ?_) rfl (by kernel_rfl) (by kernel_rfl) (by kernel_rfl) (fun _ _ _ h => h) (by rfl) ?_ hHeld ?_; rotate_left; (· (intro wS hSw; (try dsimp only at hSw); go_simp; first | done | with_reducible rfl)); simp only [Act.put, List.setIfInBounds_toArray, List.set_cons_zero, List.set_cons_succ]); (refine take_op (i := 7) (v := ?_) rfl (by kernel_rfl) (by kernel_rfl) (by kernel_rfl) (fun _ _ _ h => h) (by rfl) ?_ hHeld ?_; rotate_left; (· (intro wS hSw; (try dsimp only at hSw); go_simp; first | done | with_reducible rfl)); simp only [Act.put, List.setIfInBounds_toArray, List.set_cons_zero, List.set_cons_succ]); (refine take_op (i := 8) (v := ?_) rfl (by kernel_rfl) (by kernel_rfl) (by kernel_rfl) (fun _ _ _ h => h) (by rfl) ?_ hHeld ?_; rotate_left; (· (intro wS hSw; (try dsimp only at hSw); go_simp; first | done | with_reducible rfl)); simp only [Act.put, List.setIfInBounds_toArray, List.set_cons_zero, List.set_cons_succ]); (refine take_op (i := 9) (v := ?_) rfl (by kernel_rfl) (by kernel_rfl) (by kernel_rfl) (fun _ _ _ h => h) (by rfl) ?_ hHeld ?_; rotate_left; (· (intro wS hSw; (try dsimp only at hSw); go_simp; first | done | with_reducible rfl)); simp only [Act.put, List.setIfInBounds_toArray, List.set_cons_zero, List.set_cons_succ]); (refine take_op (i := 10) (v := ?_) rfl (by kernel_rfl) (by kernel_rfl) (by kernel_rfl) (fun _ _ _ h => h) (by rfl) ?_ hHeld ?_; rotate_left; (· (intro wS hSw; (try dsimp only at hSw); go_simp; first | done | with_reducible rfl)); simp only [Act.put, List.setIfInBounds_toArray, List.set_cons_zero, List.set_cons_succ]); (refine take_op (i := 11) (v := ?_) rfl (by kernel_rfl) (by kernel_rfl) (by kernel_rfl) (fun _ _ _ h => h) (by rfl) ?_ hHeld ?_; rotate_left; (· (intro wS hSw; (try dsimp only at hSw); go_simp; first | done | with_reducible rfl)); simp only [Act.put, List.setIfInBounds_toArray, List.set_cons_zero, List.set_cons_succ]); (refine take_op (i := 12) (v := ?_) rfl (by kernel_rfl) (by kernel_rfl) (by kernel_rfl) (fun _ _ _ h => h) (by rfl) ?_ hHeld ?_; rotate_left; (· (intro wS hSw; (try dsimp only at hSw); go_simp; first | done | with_reducible rfl)); simp only [Act.put, List.setIfInBounds_toArray, List.set_cons_zero, List.set_cons_succ]); (refine take_op (i := 13) (v := ?_) rfl (by kernel_rfl) (by kernel_rfl) (by kernel_rfl) (fun _ _ _ h => h) (by rfl) ?_ hHeld ?_; rotate_left; (· (intro wS hSw; (try dsimp only at hSw); go_simp; first | done | with_reducible rfl)); simp only [Act.put, List.setIfInBounds_toArray, List.set_cons_zero, List.set_cons_succ]); (refine take_op (i := 14) (v := ?_) rfl (by kernel_rfl) (by kernel_rfl) (by kernel_rfl) (fun _ _ _ h => h) (by rfl) ?_ hHeld ?_; rotate_left; (· (intro wS hSw; (try dsimp only at hSw); go_simp; first | done | with_reducible rfl)); simp only [Act.put, List.setIfInBounds_toArray, List.set_cons_zero, List.set_cons_succ]); (refine take_op (i := 15) (v := ?_) rfl (by kernel_rfl) (by kernel_rfl) (by kernel_rfl) (fun _ _ _ h => h) (by rfl) ?_ hHeld ?_; rotate_left; (· (intro wS hSw; (try dsimp only at hSw); go_simp; first | done | with_reducible rfl)); simp only [Act.put, List.setIfInBounds_toArray, List.set_cons_zero, List.set_cons_succ]); (refine take_op (i := 16) (v := ?_) rfl (by kernel_rfl) (by kernel_rfl) (by kernel_rfl) (fun _ _ _ h => h) (by rfl) ?_ hHeld ?_; rotate_left; (· (intro wS hSw; (try dsimp only at hSw); go_simp; first | done | with_reducible rfl)); simp only [Act.put, List.setIfInBounds_toArray, List.set_cons_zero, List.set_cons_succ]); (refine take_op (i := 17) (v := ?_) rfl (by kernel_rfl) (by kernel_rfl) (by kernel_rfl) (fun _ _ _ h => h) (by rfl) ?_ hHeld ?_; rotate_left; (· (intro wS hSw; (try dsimp only at hSw); go_simp; first | done | with_reducible rfl)); simp only [Act.put, List.setIfInBounds_toArray, List.set_cons_zero, List.set_cons_succ])
    revert hHeld HB C0 P
    generalize World.drew _ = wd
    intro P C0 HB hHeld
    have ha := below_one (w := wd) (.cells #[.map o1, .map o2, .map (some bw)] 74)
    have A0 := Blk.new wd 74 #[.map o1, .map o2, .map (some bw)]
    (refine call_op (i := 18) rfl (by kernel_rfl) (by rfl) (fun K hK => ?_); go_simp; skip; refine hK.out _ _ ⟨(P.keep ha).hd.cell, (C0.keep ha).cell, Hl1.out _ (P.keep ha), Hl2.out _ (P.keep ha)⟩ (fun hHeld2 => ?_); clear hK K hHeld; have hHeld := hHeld2; clear hHeld2; (try simp only [Act.put, List.setIfInBounds_toArray, List.set_cons_zero, List.set_cons_succ]))
    (refine take_op (i := 19) (v := ?_) rfl (by kernel_rfl) (by kernel_rfl) (by kernel_rfl) (fun _ _ _ h => h) (by rfl) ?_ hHeld ?_; rotate_left; (· (intro wS hSw; (try dsimp only at hSw); go_simp; first | done | with_reducible rfl)); simp only [Act.put, List.setIfInBounds_toArray, List.set_cons_zero, List.set_cons_succ])
    (refine wpAnyH_done (by kernel_rfl) ?_ _)
    have HBA := Lib.hid (below_call HB.out ha HB.out.size)
    have HBA0 := Lib.hid HB.out.size
    clear hHeld Hl1 Hl2 ha C0 P
    go_wp2_with fail
    go_ret
    refine ⟨_, _, _, _, rfl, Nat.le_refl _, ⟨rfl, by simp [maxLen], fun i o hi => ⟨_, 0, rfl, ?_⟩⟩, FIN.out, HBA.out, fun ad e => ?_⟩
    rotate_left
    · injection e with e
      subst e
      have := HBA0.out
      simp only [World.size_alloc]
      omega
    rw [A0.cell, Nat.zero_add]
    match i with
    | 0 => simp at hi; simp [hi]
    | 1 => simp at hi; simp [hi]
    | 2 => simp at hi; simp [hi]
    | k + 3 => simp at hi
end Go.Proofs.Ytpdfbkkhmfnnjaa

namespace Go.Proofs.Ytpdfbkkhmfnnjaa
open Go.RowKit
set_option linter.unusedVariables false
set_option linter.unusedSimpArgs false
set_option maxRecDepth 20000
attribute [local go_sem ↓] Go.wp_at_zero Go.wp_at_succ
attribute [local go_sem] World.cell?_alloc_some frozen_alloc_some
open Go.Sort Go.Lib Go.Shelf

theorem holdsK_of_row {w : World} {g : Nat} {l : List IdP} (h : RowAt w g l) : HoldsK encId 2 w g 0 l.toArray := by
  intro t ht
  rw [size_flatK] at ht
  rw [get_flatK _ _ _ _ ht]
  have hi : t / 2 < l.length := by simp at ht; omega
  obtain ⟨h1, h2, h3, h4⟩ := h (t / 2) l[t / 2] (List.getElem?_eq_getElem hi)
  have e : l.toArray[t / 2]! = l[t / 2] := by simp [hi]
  rw [e, Nat.zero_add]
  rcases Nat.mod_two_eq_zero_or_one t with e2 | e2
  · rw [e2]
    have e3 : t = t / 2 * 2 := by omega
    constructor
    · rw [show (⟨g, t, none⟩ : Addr) = ⟨g, t / 2 * 2, none⟩ by rw [← e3]]; exact h1
    · rw [show (⟨g, t, none⟩ : Addr) = ⟨g, t / 2 * 2, none⟩ by rw [← e3]]; exact h3
  · rw [e2]
    have e3 : t = t / 2 * 2 + 1 := by omega
    constructor
    · rw [show (⟨g, t, none⟩ : Addr) = ⟨g, t / 2 * 2 + 1, none⟩ by rw [← e3]]; exact h2
    · rw [show (⟨g, t, none⟩ : Addr) = ⟨g, t / 2 * 2 + 1, none⟩ by rw [← e3]]; exact h4
theorem row_of_holdsK {w : World} {g : Nat} {d : Array IdP} (h : HoldsK encId 2 w g 0 d) : RowAt w g d.toList := by
  intro i x hi
  have hi2 : i < d.size := by simpa using (List.getElem?_eq_some_iff.1 hi).1
  have e : d[i]! = x := by
    rw [getElem!_pos d i hi2]
    have := (List.getElem?_eq_some_iff.1 hi).2
    simpa using this
  obtain ⟨h1, h2⟩ := h.cell hi2 (c := 0) (by decide)
  obtain ⟨h3, h4⟩ := h.cell hi2 (c := 1) (by decide)
  rw [e] at h1 h3
  simp only [Nat.zero_add, Nat.add_zero] at h1 h2 h3 h4
  exact ⟨h1, h3, h2, h4⟩

/-- The library's sort puts ids in their order. -/
def idLe (x y : IdP) : Bool := !(ltOf idCmp) y x
theorem ltOf_idCmp (x y : IdP) : ltOf idCmp x y = decide (idLt x y) := by
  unfold ltOf; rw [Bool.eq_iff_iff, decide_eq_true_iff, decide_eq_true_iff]; exact idCmp_lt
theorem swo_id : SWO (ltOf idCmp) where
  irrefl x := by rw [ltOf_idCmp]; exact decide_eq_false (idLt_irrefl x)
  trans x y z h1 h2 := by rw [ltOf_idCmp] at *; exact decide_eq_true (idLt_trans (of_decide_eq_true h1) (of_decide_eq_true h2))
  ntrans x y z h1 h2 := by
    rw [ltOf_idCmp] at *
    have h1 := of_decide_eq_false h1
    have h2 := of_decide_eq_false h2
    refine decide_eq_false fun h => ?_
    unfold idLt at *
    omega
def idSort (l : List IdP) : List IdP := l.mergeSort idLe
theorem idSort_length (l : List IdP) : (idSort l).length = l.length := List.length_mergeSort ..
theorem mem_idSort {l : List IdP} {x : IdP} : x ∈ idSort l ↔ x ∈ l := List.mem_mergeSort
theorem idSort_pairwise (l : List IdP) : (idSort l).Pairwise fun x y => ¬ idLt y x := by
  have h := List.pairwise_mergeSort (le := idLe) (fun a b c h1 h2 => ?_) (fun a b => ?_) l
  · refine h.imp fun {a b} hab => ?_
    simp only [idLe, ltOf_idCmp, Bool.not_eq_true', decide_eq_false_iff_not] at hab
    exact hab
  · simp only [idLe, ltOf_idCmp, Bool.not_eq_true', decide_eq_false_iff_not] at *
    unfold idLt at *
    omega
  · simp only [idLe, ltOf_idCmp, Bool.or_eq_true, Bool.not_eq_true', decide_eq_false_iff_not]
    rcases idLt_total a b with h | h | h
    · exact .inl (idLt_asymm h)
    · subst h; exact .inl (idLt_irrefl a)
    · exact .inr (idLt_asymm h)

theorem sort_row (g cap : Nat) (l : List IdP) (w : World) (hr : RowAt w g l) (hg : g < w.heap.size) (hl : l.length ≤ 1000000) :
    Calls Try.prog 67 #[.slice (some ⟨g, 0, none⟩) l.length cap, .func (.func 43) #[] #[]] w
      fun e w' => e = .returned (.tuple #[]) ∧ RowAt w' g (idSort l) ∧ g < w'.heap.size ∧ ∀ B, B ≤ g → Below B w w' := by
  have eg : ∀ args w, (callFunc 43 args).run Try.prog w = .ok (.enter 43 args) w := enters_of Try.func43 (by kernel_rfl) rfl
  have hcmp : CmpLays Try.prog 43 #[] encId 2 idCmp g 0 l.toArray.size w := fun m os dk _ x y =>
    (order_any x.1 x.2 y.1 y.2 _).mono fun e w' ⟨he, hL⟩ => ⟨he, hL.grow⟩
  have hH := holdsK_of_row hr
  have hcon := AnyQ.slices_SortFunc_total Try.sortIds 2 Try.isAgg26 Try.sizeOf26 encId (fun _ => rfl) (fun x v hv => by simp [encId] at hv; rcases hv with rfl | rfl <;> rfl) idCmp swo_id 43 #[] g 0 cap l.toArray w eg hcmp hH hg (by simp; omega)
    (fun x y h1 h2 => by
      rw [ltOf_idCmp] at h1 h2
      rcases idLt_total x y with h | h | h
      · exact absurd h (of_decide_eq_false h1)
      · exact h
      · exact absurd h (of_decide_eq_false h2))
  rw [show l.toArray.size = l.length by simp] at hcon
  change Calls Try.prog 67 _ _ _ at hcon
  refine hcon.mono fun e w' ⟨he, n, os, hw⟩ => ?_
  have hs : (List.mergeSort l.toArray.toList fun x y => !(ltOf idCmp) y x) = idSort l := by simp [idSort, idLe]; rfl
  rw [hs] at hw
  have hK : HoldsK encId 2 w' g 0 (idSort l).toArray := by rw [hw]; exact holdsK_sortWorldK_c encId 2 w g 0 l.toArray (idSort l).toArray n os hH hg (by simp [idSort_length])
  have hsz : w.heap.size ≤ w'.heap.size := by rw [hw]; exact size_sortWorldK_c encId 2 w g 0 n (idSort l).toArray os
  refine ⟨he, by simpa using row_of_holdsK hK, by omega, fun B hB => ?_⟩
  rw [hw]
  unfold sortWorldK putRowK
  have h1 : Below B w (putRow id (Sort.ahead w n) g 0 (flatK encId 2 (idSort l).toArray)) := Lib.below_putRow (Below.refl _ _) hB
  exact ⟨h1.os, h1.tape, h1.output, by have := h1.size; simp only [grow, Array.size_append] at *; omega, fun k hk => by
    rw [heap_grow_old _ _ (by have := h1.size; omega)]
    exact h1.block k hk⟩
end Go.Proofs.Ytpdfbkkhmfnnjaa
