/- A map from names to files' blocks that the call has made: what it holds. -/
import Derived.Test.YtpdfbkkhmfnnjaaReg
import Derived.Test.YtpdfbkkhmfnnjaaDiskPl
import Derived.Test.YtpdfbkkhmfnnjaaApp
import Derived.Maps.Views
import Derived.Maps.Own
import Derived.Maps.OwnOps
import Derived.Maps.OwnSet
import Derived.Maps.RangeWalk
import Derived.Maps.Keyed
import Derived.StringKeys
import Derived.Carry
import Derived.WalkKit
import Derived.WalkSpells
import Derived.WalkLawsBesides
import Derived.Deep.RegionHeld3
import Derived.Deep.DrawnRows
import Derived.Deep.DeepCutAuto
import Derived.Deep.DeepFit
import Derived.Lib.Hide
import Derived.BigQuiet
import Derived.Deep.QuietTactic
namespace Go.Proofs.Ytpdfbkkhmfnnjaa
open Go.RowKit
set_option linter.unusedVariables false
set_option linter.unusedSimpArgs false
set_option maxRecDepth 20000
attribute [local go_sem ↓] Go.wp_at_zero Go.wp_at_succ
attribute [local go_sem] World.cell?_alloc_some frozen_alloc_some
open Go.Maps

/-- A name's bytes; a file's block. -/
abbrev FlT := NmT × Nat
abbrev sV (s : NmT) : Value := .string ⟨⟨s⟩⟩
abbrev eV (e : Nat) : Value := .pointer (some ⟨e, 0, none⟩)
def wfN (s : NmT) : Prop := s.length ≤ maxLen
def nmK (s : NmT) : Lit := .string s
theorem nmK_key (s : NmT) : WideAt.IsKeyLit (nmK s) := trivial
theorem nmLaw : Keyed Try.prog 9 := string_keyed Try.underlying9
theorem keyOf_nm {s : NmT} (h : wfN s) : keyOf Try.prog 9 (sV s) = some (nmK s) := by
  have := Go.WideMaps.keyOf_string_mk (P := Try.prog) (k := 9) Try.underlying9 (s := ⟨⟨s⟩⟩) (by simp [ByteArray.size]; exact h)
  simpa [nmK] using this
theorem nmK_inj {s t : NmT} (h : nmK s = nmK t) : s = t := by simpa [nmK] using h
/-- How a pointer to a file reads. -/
def RF : Value → Option (DataW Unit × List MemPlace)
  | .pointer (some ⟨e, 0, none⟩) => some (.lit (.int .i64 (e : Int)), [])
  | .pointer none => some (.lit (.int .i64 (-1)), [])
  | _ => none
theorem rf_ptr (e : Nat) : RF (eV e) = some (.lit (.int .i64 (e : Int)), []) := rfl
theorem rf_inv {v : Value} {e : Nat} {z : List MemPlace} (h : RF v = some (.lit (.int .i64 (e : Int)), z)) : v = eV e := by
  unfold RF at h
  split at h
  · simp only [Option.some.injEq, Prod.mk.injEq, DataW.lit.injEq, Lit.int.injEq, true_and] at h
    rw [show _ = e from Int.ofNat.inj h.1]
  · simp only [Option.some.injEq, Prod.mk.injEq, DataW.lit.injEq, Lit.int.injEq, true_and] at h
    omega
  · cases h
theorem rf_nil {v : Value} {z : List MemPlace} (h : RF v = some (.lit (.int .i64 (-1)), z)) : v = .pointer none := by
  unfold RF at h
  split at h
  · simp only [Option.some.injEq, Prod.mk.injEq, DataW.lit.injEq, Lit.int.injEq, true_and] at h
    omega
  · rfl
  · cases h
theorem zeroEntry (w : World) : (zeroValue 120).run Try.prog w = .ok (.pointer none) w := by kernel_rfl

abbrev Nms1 (x : List FlT) : Prop := x.Pairwise fun a b => a.1 ≠ b.1
def outF (x : List FlT) (s : NmT) : List FlT := x.filter fun t => decide (t.1 ≠ s)
def hasF (x : List FlT) (s : NmT) : Bool := x.any fun t => decide (t.1 = s)
theorem mem_outF {x : List FlT} {s : NmT} {t : FlT} : t ∈ outF x s ↔ t ∈ x ∧ t.1 ≠ s := by simp [outF]
theorem hasF_iff {x : List FlT} {s : NmT} : hasF x s = true ↔ ∃ t ∈ x, t.1 = s := by simp [hasF]
theorem hasF_mem {x : List FlT} {t : FlT} (h : t ∈ x) : hasF x t.1 = true := hasF_iff.2 ⟨t, h, rfl⟩
theorem outF_nms {x : List FlT} (h : Nms1 x) (s : NmT) : Nms1 (outF x s) := List.Pairwise.filter _ h
theorem nms1_one {x : List FlT} (h : Nms1 x) {t u : FlT} (ht : t ∈ x) (hu : u ∈ x) (e : t.1 = u.1) : t = u := by
  induction x with
  | nil => cases ht
  | cons v r ih =>
    obtain ⟨h1, h2⟩ := List.pairwise_cons.1 h
    rcases List.mem_cons.1 ht with e1 | ht2
    · rcases List.mem_cons.1 hu with e2 | hu2
      · rw [e1, e2]
      · exact absurd (by rw [← e1]; exact e) (h1 u hu2)
    · rcases List.mem_cons.1 hu with e2 | hu2
      · exact absurd (by rw [← e2]; exact e.symm) (h1 t ht2)
      · exact ih h2 ht2 hu2
theorem outF_same {x : List FlT} {s : NmT} (h : ∀ t ∈ x, t.1 ≠ s) : outF x s = x := List.filter_eq_self.2 fun t ht => by simpa using h t ht
theorem outF_length {s : NmT} : ∀ {x : List FlT}, Nms1 x → (outF x s).length + (if hasF x s then 1 else 0) = x.length
  | [], _ => rfl
  | t :: x, h => by
    obtain ⟨h1, h2⟩ := List.pairwise_cons.1 h
    have ih := outF_length (s := s) h2
    unfold hasF at ih ⊢
    by_cases e : t.1 = s
    · have ho : outF (t :: x) s = outF x s := by simp [outF, e]
      have hs : outF x s = x := outF_same fun u hu hui => h1 u hu (e.trans hui.symm)
      rw [ho, hs]
      simp [e]
    · have ho : outF (t :: x) s = t :: outF x s := by simp [outF, e]
      rw [ho]
      simp only [List.any_cons, e, decide_false, Bool.false_or, List.length_cons]
      omega

/-- The map holds just these files. -/
structure RepF (D : DataW Unit) (x : List FlT) : Prop where
  has : ∀ t ∈ x, Maps.has D (nmK t.1) = true
  at_ : ∀ t ∈ x, ∀ z, D.atKey (nmK t.1) z = .lit (.int .i64 (t.2 : Int))
  only : ∀ kl, Maps.has D kl = true → ∃ t ∈ x, kl = nmK t.1
  size : Maps.size D = x.length
  nd : Nms1 x
  wf : ∀ t ∈ x, wfN t.1
theorem RepF.nil : RepF (.map [] : DataW Unit) [] :=
  ⟨(fun t h => by cases h), (fun t h => by cases h), (fun kl h => by simp [Maps.has] at h), rfl, List.Pairwise.nil, (fun t h => by cases h)⟩
theorem RepF.hit {D : DataW Unit} {x : List FlT} (h : RepF D x) (s : NmT) : Maps.has D (nmK s) = hasF x s := by
  rw [Bool.eq_iff_iff, hasF_iff]
  constructor
  · intro hh
    obtain ⟨t, ht, e⟩ := h.only _ hh
    exact ⟨t, ht, (nmK_inj e).symm⟩
  · rintro ⟨t, ht, e⟩
    rw [← e]
    exact h.has t ht
theorem RepF.miss {D : DataW Unit} {x : List FlT} (h : RepF D x) {s : NmT} (hn : hasF x s = false) : Maps.has D (nmK s) = false := by rw [h.hit, hn]
theorem RepF.del {D : DataW Unit} {x : List FlT} (h : RepF D x) (hT : Tidy D) (s : NmT) : RepF (D.del (nmK s)) (outF x s) := by
  have hne : ∀ t ∈ outF x s, nmK t.1 ≠ nmK s := fun t ht e => (mem_outF.1 ht).2 (nmK_inj e)
  refine ⟨fun t ht => ?_, fun t ht z => ?_, fun kl hk => ?_, ?_, outF_nms h.nd s, fun t ht => h.wf t (mem_outF.1 ht).1⟩
  · rw [has_del_other (hne t ht)]; exact h.has t (mem_outF.1 ht).1
  · rw [atKey_del_other (hne t ht)]; exact h.at_ t (mem_outF.1 ht).1 z
  · have hki : kl ≠ nmK s := fun e => by rw [e, has_del_same] at hk; cases hk
    rw [has_del_other hki] at hk
    obtain ⟨t, ht, e⟩ := h.only kl hk
    exact ⟨t, mem_outF.2 ⟨ht, fun e2 => hki (by rw [e, e2])⟩, e⟩
  · have h1 := size_del (k := nmK s) hT
    have h2 := outF_length (s := s) h.nd
    rw [h.hit s] at h1
    rw [h.size] at h1
    cases ha : hasF x s
    · rw [ha] at h1 h2
      simp at h1 h2
      omega
    · rw [ha] at h1 h2
      simp at h1 h2
      omega
/-- Put: whatever list holds the new file and the others. -/
theorem RepF.put {D : DataW Unit} {x y : List FlT} (h : RepF D x) (hT : Tidy D) {t : FlT} (hi : wfN t.1) (hy : ∀ u, u ∈ y ↔ u = t ∨ u ∈ outF x t.1) (hn : Nms1 y) (hl : y.length = (outF x t.1).length + 1) :
    RepF (D.put (nmK t.1) (.lit (.int .i64 (t.2 : Int)))) y := by
  have hne : ∀ u ∈ outF x t.1, nmK u.1 ≠ nmK t.1 := fun u hu e => (mem_outF.1 hu).2 (nmK_inj e)
  refine ⟨fun u hu => ?_, fun u hu z => ?_, fun kl hk => ?_, ?_, hn, fun u hu => ?_⟩
  · rcases (hy u).1 hu with rfl | hu
    · exact has_put_same hT.isMap (nmK_key _) _
    · rw [has_put_other (hne u hu)]; exact h.has u (mem_outF.1 hu).1
  · rcases (hy u).1 hu with rfl | hu
    · exact atKey_put_same hT.isMap (nmK_key _) _ _
    · rw [atKey_put_other (hne u hu)]; exact h.at_ u (mem_outF.1 hu).1 z
  · by_cases hki : kl = nmK t.1
    · exact ⟨t, (hy t).2 (.inl rfl), hki⟩
    · rw [has_put_other hki] at hk
      obtain ⟨u, hu, e⟩ := h.only kl hk
      exact ⟨u, (hy u).2 (.inr (mem_outF.2 ⟨hu, fun e2 => hki (by rw [e, e2])⟩)), e⟩
  · rw [size_put hT, hl]
    have h2 := outF_length (s := t.1) h.nd
    rw [h.hit t.1, h.size]
    cases ha : hasF x t.1
    · rw [ha] at h2
      simp at h2 ⊢
      omega
    · rw [ha] at h2
      simp at h2 ⊢
      omega
  · rcases (hy u).1 hu with rfl | hu
    · exact hi
    · exact h.wf u (mem_outF.1 hu).1
/-- The file of a name: its block, if there is one. -/
def entV (x : List FlT) (s : NmT) : Value := match x.find? (fun t => decide (t.1 = s)) with | some t => eV t.2 | none => .pointer none
theorem entV_hit {x : List FlT} (h : Nms1 x) {t : FlT} (ht : t ∈ x) : entV x t.1 = eV t.2 := by
  unfold entV
  cases hf : x.find? (fun u => decide (u.1 = t.1)) with
  | none =>
    have := List.find?_eq_none.1 hf t ht
    simp at this
  | some u =>
    have h1 := List.find?_some hf
    rw [nms1_one h (List.mem_of_find?_eq_some hf) ht (by simpa using h1)]
theorem entV_miss {x : List FlT} {s : NmT} (hn : hasF x s = false) : entV x s = .pointer none := by
  unfold entV
  cases hf : x.find? (fun u => decide (u.1 = s)) with
  | none => rfl
  | some u =>
    have h1 := List.find?_some hf
    have := hasF_iff.2 ⟨u, List.mem_of_find?_eq_some hf, of_decide_eq_true h1⟩
    rw [hn] at this; cases this
/-- The map in a block of the call's own. -/
def FmAt (w : World) (b : Nat) (x : List FlT) : Prop := ∃ D, w.ownsMap Try.prog 9 RF b x.length D ∧ RepF D x
theorem ownsMap_tight {w : World} {b n : Nat} {D : DataW Unit} (h : w.ownsMap Try.prog 9 RF b n D) {m : Nat} (hm : Maps.size D = m) : w.ownsMap Try.prog 9 RF b m D := by
  obtain ⟨es, clock, h1, h2, _, h3⟩ := h
  refine ⟨es, clock, h1, h2, ?_, h3⟩
  rw [h3] at hm
  simp [Maps.size, length_sorted] at hm
  omega
theorem FmAt.made (w : World) : FmAt (w.alloc (.map #[] 0)) w.heap.size [] := ⟨_, World.ownsMap_made w _ _ _, RepF.nil⟩
theorem FmAt.kept {w w' : World} {row : Option Nat} {b : Nat} {x : List FlT} (h : FmAt w b x) (hg : w.grownBy w' row) (hne : some b ≠ row) : FmAt w' b x := by
  obtain ⟨D, h1, h2⟩ := h
  exact ⟨D, h1.kept hg hne, h2⟩
theorem FmAt.same {w w' : World} {b : Nat} {x : List FlT} (h : FmAt w b x) (hb : w'.heap[b]? = w.heap[b]?) : FmAt w' b x := by
  obtain ⟨D, ⟨es, c, h1, h2⟩, h3⟩ := h
  exact ⟨D, ⟨es, c, hb.trans h1, h2⟩, h3⟩
theorem FmAt.keep {w w' : World} {b : Nat} {x : List FlT} (h : FmAt w b x) (hb : Below w.heap.size w w') : FmAt w' b x := by
  obtain ⟨D, ⟨es, c, h1, h2⟩, h3⟩ := h
  exact ⟨D, ⟨es, c, (hb.block b (Array.getElem?_eq_some_iff.1 h1).1).trans h1, h2⟩, h3⟩
theorem FmAt.lt {w : World} {b : Nat} {x : List FlT} (h : FmAt w b x) : b < w.heap.size := by
  obtain ⟨D, h1, _⟩ := h
  exact h1.lt
theorem FmAt.is_map {w : World} {b : Nat} {x : List FlT} (h : FmAt w b x) : ∃ es c, w.heap[b]? = some (.map es c) := by
  obtain ⟨D, ⟨es, c, h1, _⟩, _⟩ := h
  exact ⟨es, c, h1⟩
theorem FmAt.nms {w : World} {b : Nat} {x : List FlT} (h : FmAt w b x) : Nms1 x := by
  obtain ⟨D, _, h2⟩ := h
  exact h2.nd
theorem FmAt.wf {w : World} {b : Nat} {x : List FlT} (h : FmAt w b x) : ∀ t ∈ x, wfN t.1 := by
  obtain ⟨D, _, h2⟩ := h
  exact h2.wf
theorem FmAt.look_ok {w : World} {b : Nat} {x : List FlT} (h : FmAt w b x) {s : NmT} (hi : wfN s) :
    (Instr.lookup 93 (.map (some b)) (sV s) true).run Try.prog w = .ok (.tuple #[entV x s, .bool (hasF x s)]) w := by
  obtain ⟨D, h1, h2⟩ := h
  obtain ⟨v, ps, hrun, hv⟩ := h1.look_ok nmLaw Try.underlying93 (zeroEntry w) (show RF (.pointer none) = some (.lit (.int .i64 (-1)), []) from rfl) (keyOf_nm hi)
  cases ha : hasF x s
  · rw [atKey_of_not_has (h2.miss ha)] at hv
    obtain rfl := rf_nil hv
    rw [hrun, h2.hit, ha, entV_miss ha]
  · obtain ⟨t, ht, e⟩ := hasF_iff.1 ha
    subst e
    rw [h2.at_ t ht] at hv
    obtain rfl := rf_inv hv
    rw [hrun, h2.hit, ha, entV_hit h2.nd ht]
theorem FmAt.look {w : World} {b : Nat} {x : List FlT} (h : FmAt w b x) {s : NmT} (hi : wfN s) :
    (Instr.lookup 93 (.map (some b)) (sV s) false).run Try.prog w = .ok (entV x s) w := by
  obtain ⟨D, h1, h2⟩ := h
  obtain ⟨v, ps, hrun, hv⟩ := h1.lookup nmLaw Try.underlying93 (zeroEntry w) (show RF (.pointer none) = some (.lit (.int .i64 (-1)), []) from rfl) (keyOf_nm hi)
  cases ha : hasF x s
  · rw [atKey_of_not_has (h2.miss ha)] at hv
    obtain rfl := rf_nil hv
    rw [hrun, entV_miss ha]
  · obtain ⟨t, ht, e⟩ := hasF_iff.1 ha
    subst e
    rw [h2.at_ t ht] at hv
    obtain rfl := rf_inv hv
    rw [hrun, entV_hit h2.nd ht]
theorem FmAt.store {w : World} {b : Nat} {x y : List FlT} (h : FmAt w b x) (hn : x.length < maxLen) {t : FlT} (hi : wfN t.1) (hy : ∀ u, u ∈ y ↔ u = t ∨ u ∈ outF x t.1) (hnd : Nms1 y) (hl : y.length = (outF x t.1).length + 1) :
    ∃ w', (Instr.mapUpdate 93 (.map (some b)) (sV t.1) (eV t.2)).run Try.prog w = .ok () w' ∧ FmAt w' b y ∧ w.grownBy w' (some b) := by
  obtain ⟨D, h1, h2⟩ := h
  obtain ⟨w', hrun, h3, h4⟩ := h1.update nmLaw Try.underlying93 hn (keyOf_nm hi) (rf_ptr t.2)
  have h5 := h2.put (h1.tidy nmLaw) hi hy hnd hl
  exact ⟨w', hrun, ⟨_, ownsMap_tight h3 h5.size, h5⟩, h4⟩
theorem FmAt.drop {w : World} {b : Nat} {x : List FlT} (h : FmAt w b x) {s : NmT} (hi : wfN s) (ty : TypeId) :
    ∃ w', (Builtin.delete_ #[93, 9] ty #[.map (some b), sV s]).run Try.prog w = .ok (.tuple #[]) w' ∧ FmAt w' b (outF x s) ∧ w.grownBy w' (some b) := by
  obtain ⟨D, h1, h2⟩ := h
  obtain ⟨w', hrun, h3, h4⟩ := h1.drop nmLaw Try.underlying93 (keyOf_nm hi) ty
  have h5 := h2.del (h1.tidy nmLaw) s
  exact ⟨w', hrun, ⟨_, ownsMap_tight h3 h5.size, h5⟩, h4.grown⟩
theorem FmAt.size_ {w : World} {b : Nat} {x : List FlT} (h : FmAt w b x) (ty : TypeId) : (Builtin.len_ #[93] ty #[.map (some b)]).run Try.prog w = .ok (.int .i64 (x.length : Nat)) w := by
  obtain ⟨D, h1, h2⟩ := h
  rw [h1.len Try.underlying93 ty, h2.size]
end Go.Proofs.Ytpdfbkkhmfnnjaa
