/- ids.Set, slices.Concat, ids.Join. -/
import Derived.Test.YtmgiholmhhjpaaaIdCompact
import Derived.Test.YtmgiholmhhjpaaaGrowL
import Derived.Test.YtmgiholmhhjpaaaAppC
import Derived.WalkKit
import Derived.WalkSpells
import Derived.WalkLawsBesides
import Derived.Deep.RegionHeld3
import Derived.Deep.DrawnRows
import Derived.Deep.DeepCutAuto
import Derived.Deep.DeepFit
import Derived.Lib.Hide
import Derived.BigQuiet
import Derived.Deep.QuietTactic
namespace Go.Proofs.Ytmgiholmhhjpaaa
open Go.RowKit
set_option linter.unusedVariables false
set_option linter.unusedSimpArgs false
set_option maxRecDepth 20000
attribute [local go_sem ↓] Go.wp_at_zero Go.wp_at_succ
attribute [local go_sem] World.cell?_alloc_some frozen_alloc_some
open Go.Sort Go.Lib

/-- Compacting what is in order leaves the set. -/
theorem compact_sorted {l : List IdP} (h : l.Pairwise fun x y => ¬ idLt y x) : compactUpTo l.toArray l.length = idSet l := by
  have key : ∀ m, m ≤ l.length → Asc (compactUpTo l.toArray m) ∧ (∀ x, x ∈ compactUpTo l.toArray m ↔ x ∈ l.take m) := by
    intro m
    induction m with
    | zero => intro _; exact ⟨by simp [compactUpTo], fun x => by simp [compactUpTo]⟩
    | succ m ih =>
      intro hm
      obtain ⟨h1, h2⟩ := ih (by omega)
      have hget : l.toArray[m]! = l[m] := by simp [show m < l.length by omega]
      rw [compactUpTo_succ, List.take_add_one, List.getElem?_eq_getElem (by omega)]
      simp only [Option.toList]
      by_cases hk : Go.Lib.keeps l.toArray m = true
      · rw [if_pos hk, hget]
        refine ⟨List.pairwise_append.2 ⟨h1, by simp, fun a ha b hb => ?_⟩, fun x => by rw [List.mem_append, List.mem_append, h2]⟩
        simp at hb
        subst hb
        obtain ⟨i, hi, rfl⟩ := List.getElem_of_mem ((h2 a).1 ha)
        rw [List.length_take] at hi
        rw [List.getElem_take]
        have him : i < m := by omega
        have hm0 : m ≠ 0 := by omega
        have hne : l[m] ≠ l[m - 1] := by
          have := of_decide_eq_true hk
          rcases this with h | h
          · exact absurd h hm0
          · rw [hget] at h
            have e : l.toArray[m - 1]! = l[m - 1] := by simp [show m - 1 < l.length by omega]
            rw [e] at h
            exact h
        have s1 : ∀ j, (hj : j < m) → ¬ idLt l[m] l[j] := fun j hj => List.pairwise_iff_getElem.1 h j m (by omega) (by omega) hj
        have last : idLt l[m - 1] l[m] := by
          rcases idLt_total l[m - 1] l[m] with h | h | h
          · exact h
          · exact absurd h.symm hne
          · exact absurd h (s1 (m - 1) (by omega))
        by_cases e : i = m - 1
        · subst e; exact last
        · have s2 := List.pairwise_iff_getElem.1 h i (m - 1) (by omega) (by omega) (by omega)
          unfold idLt at *
          omega
      · rw [if_neg hk]
        simp only [List.append_nil]
        refine ⟨h1, fun x => ?_⟩
        rw [h2]
        have hk' := of_decide_eq_false (Bool.not_eq_true _ ▸ hk : Go.Lib.keeps l.toArray m = false)
        have hm0 : m ≠ 0 := fun e => hk' (.inl e)
        have he : l[m] = l[m - 1] := by
          have h := fun h => hk' (.inr h)
          rw [hget] at h
          have e : l.toArray[m - 1]! = l[m - 1] := by simp [show m - 1 < l.length by omega]
          rw [e] at h
          exact Decidable.not_not.1 h
        have hmem : l[m] ∈ l.take m := by
          rw [he, List.mem_take_iff_getElem]
          exact ⟨m - 1, by omega, rfl⟩
        simp only [List.mem_append, List.mem_singleton]
        exact ⟨.inl, fun h => h.elim id fun e => e ▸ hmem⟩
  obtain ⟨h1, h2⟩ := key l.length (Nat.le_refl _)
  exact idSet_eq h1 fun x => by rw [h2, List.take_length]

/-- The slice lies in blocks from b on. -/
def Fresh (b : Nat) (A : Option Addr) : Prop := ∀ ad, A = some ad → ad.spot = none ∧ b ≤ ad.block
theorem Fresh.mono {b b' : Nat} {A : Option Addr} (h : Fresh b A) (hb : b' ≤ b) : Fresh b' A := fun ad e => ⟨(h ad e).1, Nat.le_trans hb (h ad e).2⟩
theorem IdsAt.far {w : World} {A : Option Addr} {m b : Nat} {l : List IdP} (h : IdsAt w A m l) (hf : Fresh b A) {p : Addr} (hp : p.block < b) (v : Value) : IdsAt (w.setCell p v) A m l :=
  ⟨h.1, h.2.1, fun i x hi => by
    obtain ⟨w1, w2, g, o, e, h1, h2⟩ := h.2.2 i x hi
    have hb := (hf _ e).2
    simp only at hb
    exact ⟨w1, w2, g, o, e, cell_far h1 (by simp only; omega), cell_far h2 (by simp only; omega)⟩⟩
theorem idinfo : ∃ i, Try.prog.info? 42 = some i ∧ i.zero = some (.agg #[.int .i64 0, .int .i64 0]) ∧ i.size = 2 ∧ i.bytes = 16 := by
  have h : (Try.prog.info? 42).map (fun i => (i.zero, i.size, i.bytes)) = some (some (.agg #[.int .i64 0, .int .i64 0]), 2, 16) := by kernel_rfl
  exact info_parts h

set_option maxHeartbeats 1000000 in
theorem set_any (A : Option Addr) (m c : Nat) (l : List IdP) (w : World) (h1 : IdsAt w A m l) (hm : m ≤ 1000000) (hsp : ∀ ad, A = some ad → ad.spot = none) :
    Calls Try.prog 23 #[.slice A m c] w
      fun e w' => ∃ A' c', e = .returned (.slice A' (idSet l).length c') ∧ (idSet l).length ≤ c' ∧ IdsAt w' A' (idSet l).length (idSet l) ∧ Fresh w.heap.size A' ∧ Below w.heap.size w w' := by
  obtain ⟨i0, hi, hz0, hz1, hz2⟩ := idinfo
  cases A with
  | none =>
    have hl : l = [] := by
      cases l with
      | nil => rfl
      | cons x l =>
        obtain ⟨_, _, b, o, e, _⟩ := h1.2.2 0 x rfl
        cases e
    subst hl
    obtain rfl : m = 0 := h1.1
    have hcl := fun W => AnyE.slices_Clone_nil Try.cloneIds 0 c W
    have hso := fun W => AnyF.slices_SortFunc_none (P := Try.prog) (ρ := Try.sortIds_ren) { Try.sortIds with } none 0 (.func (.func 17) #[] #[]) W
    change ∀ W, Calls Try.prog 26 _ _ _ at hcl
    change ∀ W, Calls Try.prog 27 _ _ _ at hso
    have hco : ∀ W, Calls Try.prog 28 #[.slice none 0 0] W fun e w' => e = .returned (.slice none 0 0) ∧ w' = W := fun W => by
      go_enter Try.func28, Try.ntmps28
      go_wp2_with fail
      go_ret
      exact ⟨rfl, rfl⟩
    rw [show idSet [] = [] from rfl]
    clear h1 hm hsp
    go_enter Try.func23, Try.ntmps23
    go_wp2_with (first | (go_at_call 26; refine (hcl _).mono ?_; rintro e w1 ⟨rfl, rfl⟩) | (go_at_call 27; refine (hso _).mono ?_; rintro e w1 ⟨rfl, rfl⟩) | (go_at_call 28; refine (hco _).mono ?_; rintro e w1 ⟨rfl, rfl⟩))
    go_ret
    exact ⟨none, 0, rfl, Nat.le_refl _, IdsAt.nil, fun ad h => (by cases h), Below.refl _ _⟩
  | some ad =>
    obtain ⟨b, o, sp⟩ := ad
    obtain rfl : sp = none := hsp _ rfl
    have hlm := h1.1
    have hwf := h1.wf
    have hcl : ∀ W, Below w.heap.size w W → Calls Try.prog 26 #[.slice (some ⟨b, o, none⟩) m c] W fun e w' => ∃ g cap, e = .returned (.slice (some ⟨g, 0, none⟩) m cap) ∧ W.heap.size ≤ g ∧ g < w'.heap.size ∧ m ≤ cap ∧ cap ≤ maxLen ∧ RowAt w' g l ∧ Below W.heap.size W w' := fun W hb => by
      have h := AnyE.slices_Clone Try.cloneIds i0 _ 2 16 hi hz0 hz1 hz2 rfl (by decide) Try.sizeOf42 b o m c (flat2 l) W (by rw [flat2_length, hlm]) h1.2.1 (by omega) (fun j u hj => (h1.keep hb).cells hj) flat2_one
      change Calls Try.prog 26 _ _ _ at h
      refine h.mono fun e w' ⟨v, he, hown, hne, hbw⟩ => ?_
      obtain ⟨g, cap, rfl, hg1, hg2, hn, hcm, _, hr⟩ := row_of_own hown hne
      exact ⟨g, cap, he, hg1, hg2, hn, hcm, hr, hbw⟩
    have hso : ∀ g cap W, RowAt W g l → g < W.heap.size → Calls Try.prog 27 #[.slice (some ⟨g, 0, none⟩) m cap, .func (.func 17) #[] #[]] W
        fun e w' => e = .returned (.tuple #[]) ∧ RowAt w' g (idSort l) ∧ g < w'.heap.size ∧ ∀ B, B ≤ g → Below B W w' := fun g cap W hr hg => by
      have h := sort_row g cap l W hr hg (by omega)
      rwa [← hlm] at h
    have hco : ∀ g cap W, RowAt W g (idSort l) → g < W.heap.size → m ≤ cap → cap ≤ maxLen → Calls Try.prog 28 #[.slice (some ⟨g, 0, none⟩) m cap] W
        fun e w' => ∃ k, e = .returned (.slice (some ⟨g, 0, none⟩) k cap) ∧ k ≤ cap ∧ IdsAt w' (some ⟨g, 0, none⟩) k (idSet l) ∧ ∀ B, B ≤ g → Below B W w' := fun g cap W hr hg hmc hcm => by
      have hsz : (idSort l).toArray.size = m := by simp [idSort_length, hlm]
      have h := compact_any g cap (idSort l).toArray W (by simpa using hr) hg (by omega) hcm (by omega) (fun x hx => hwf x (mem_idSort.1 (by simpa using hx)))
      rw [hsz] at h
      have he : compactUpTo (idSort l).toArray m = idSet l := by
        rw [hlm, ← idSort_length l, compact_sorted (idSort_pairwise l)]
        exact idSet_congr fun x => mem_idSort
      rw [he] at h
      exact h
    have Hcl := Lib.hid hcl
    have Hso := Lib.hid hso
    have Hco := Lib.hid hco
    clear hcl hso hco h1 hm hsp hwf hlm hi hz0 hz1 hz2
    go_enter Try.func23, Try.ntmps23
    go_wp2_with (first | (go_at_call 26; refine (Hcl.out _ (Below.refl _ _)).mono ?_; rintro e w1 ⟨g, cap, rfl, hg1, hg2, hmc, hcm, hr, hb1⟩; have R1 := Lib.hid hr; clear hr) | (go_at_call 27; refine (Hso.out _ _ _ R1.out hg2).mono ?_; rintro e w2 ⟨rfl, hr2, hg3, hb2⟩; have R2 := Lib.hid hr2; have hb2' := hb2 w.heap.size (by omega); clear hr2 hb2) | (go_at_call 28; refine (Hco.out _ _ _ R2.out hg3 hmc hcm).mono ?_; rintro e w3 ⟨k, rfl, hkc, hI, hb3⟩; have I3 := Lib.hid hI; have hb3' := hb3 w.heap.size (by omega); clear hI hb3))
    go_ret
    have hk : k = (idSet l).length := I3.out.1
    subst hk
    exact ⟨_, cap, rfl, hkc, I3.out, fun ad h => (by cases h; exact ⟨rfl, hg1⟩), (hb1.trans hb2').trans hb3'⟩
end Go.Proofs.Ytmgiholmhhjpaaa
