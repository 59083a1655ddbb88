/- The walks of package stonecroplaw03: its example, and the law CodecPuts. -/
import Derived.Test.YtekbebekihcnpaaCodecJ
namespace Go.Proofs.Ytekbebekihcnpaa
open Go.RowKit
set_option linter.unusedVariables false
set_option linter.unusedSimpArgs false
set_option maxRecDepth 20000
attribute [local go_sem ↓] Go.wp_at_zero Go.wp_at_succ
attribute [local go_sem] World.cell?_alloc_some frozen_alloc_some
attribute [local go_sem] lt2 lt3 lt4 lt5
attribute [local simp] lt2 lt3 lt4 lt5

theorem items_block {w : World} {g m : Nat} {e : TypeId} {fr : Nat × Nat} {vs : Nat → Value} {l : List Tree} (hb : w.heap[g]? = some (.cells (flat4 vs m).toArray e fr)) (hm : m = l.length) (hmm : m ≤ maxLen)
    (h : ∀ (i : Nat) (t : Tree), l[i]? = some t → Holds w t (vs i)) : Items w (some ⟨g, 0, none⟩) m m l :=
  ⟨hm, Nat.le_refl _, hmm, vs, fun i hi => ⟨_, rfl, fun j u hu => by
    have h4 : ∀ i, i < m → (vs i).cells.size = 4 := fun i hi => (h i l[i] (List.getElem?_eq_getElem (by omega))).four.1
    have hj : j < 4 := by rw [← h4 i hi]; exact (Array.getElem?_eq_some_iff.1 hu).1
    have hadd : (⟨g, 0, none⟩ : Addr).add (4 * i + j) = ⟨g, 4 * i + j, none⟩ := by unfold Addr.add; split <;> simp_all
    rw [hadd, cell_of_row w g _ _ e fr hb, List.getElem?_toArray, flat4_get h4 hi hj]
    exact hu⟩, h⟩
theorem check_pair (a b : Tree) (d : Nat) : checks [a, b] d = if check a d = 0 then (if check b d = 0 then 0 else check b d) else check a d := by simp [checks]
theorem Puts.below {w w' : World} {k : IntKind} {e : TypeId} {l : List Nat} {err : Nat} {r : Ending} (h : Puts w k e l err r w') : Below w.heap.size w w' := by
  obtain ⟨v, _, _, hb⟩ := h; exact hb

def tA : Tree := .mk 2 0 ByteArray.empty [.mk 0 5 ByteArray.empty [], .mk 1 0 ⟨#[97]⟩ []]
theorem form_small {v : Nat} (h : v < 248) : form v = [v] := by unfold form; rw [if_pos h]
theorem tA_form : tform tA = [2, 2, 0, 5, 1, 1, 97] := by
  simp only [tA, tform, tforms]
  have h1 : (ByteArray.mk #[97]).size = 1 := rfl
  have h2 : txt (ByteArray.mk #[97]) = [97] := rfl
  simp [h1, h2, form_small]
theorem tA_check : check tA 0 = 0 := by
  have h1 : (ByteArray.mk #[97]).size = 1 := rfl
  have h2 : ByteArray.empty.size = 0 := rfl
  simp [tA, check, checks, bad, h1, h2]
theorem tA_err : perr tA = 0 := by simp [perr, tA_check, tA_form]
theorem tA_put : pform tA = [2, 2, 0, 5, 1, 1, 97] := by simp [pform, tA_err, tA_form]
theorem tA_size : tsize tA ≤ 10 := by
  have h1 : (ByteArray.mk #[97]).size = 1 := rfl
  have h2 : ByteArray.empty.size = 0 := rfl
  simp [tA, tsize, tsizes, h1, h2]

set_option maxHeartbeats 2000000 in
theorem awake03 (w : World) : Calls Try.prog 11 #[] w (Gives w (.bool true)) := by
  have same : ∀ (W : World) (A B : Option Addr) (n c d : Nat) (l : List Nat), Bytes W A n l → Bytes W B n l → Calls Try.prog 14 #[.slice A n c, .slice B n d] W (Gives W (.bool true)) := fun W A B n c d l ha hb => by
    have := same_any A B n n c d l l W ha hb
    simpa using this
  go_enter Try.func11, Try.ntmps11
  go_wp2_with fail
  refine (num_any 5 _).mono ?_
  rintro e w1 ⟨rfl, hbw1⟩
  unfold numV
  go_wp2_with fail
  refine (codectext_any ⟨#[97]⟩ _).mono ?_
  rintro e w2 ⟨rfl, hbw2⟩
  unfold textV
  go_wp2_with fail
  have hbw12 := below_call hbw1 hbw2 hbw1.size
  have hit : Items (w2.alloc (.cells #[.int .i64 0, .int .u64 5, .string ByteArray.empty, .slice none 0 0, .int .i64 1, .int .u64 0, .string ⟨#[97]⟩, .slice none 0 0] 25)) (some ⟨w2.heap.size, 0, none⟩) 2 2 [.mk 0 5 ByteArray.empty [], .mk 1 0 ⟨#[97]⟩ []] :=
    items_block (vs := fun i => match i with | 0 => numV 5 | _ => textV ⟨#[97]⟩) (fr := (0, 0)) (heap_alloc_new _ _) rfl (by decide) (fun i t hi => by
      match i with
      | 0 => simp at hi; subst hi; exact holds_num _ (by decide)
      | 1 => simp at hi; subst hi; exact holds_text _ (by decide)
      | i + 2 => simp at hi)
  refine (codeclist_any _ 2 2 _ _ hit (by decide)).mono ?_
  rintro e w3 ⟨v, rfl, hv, hbw3⟩
  go_wp2_with fail
  have hv' : Holds w3 tA v := hv
  have hput := put3_any tA v w3 (by have := tA_size; omega) hv'
  rw [tA_put, tA_err] at hput
  refine hput.mono ?_
  rintro e w4 ⟨b, rfl, hown, hbw4⟩
  obtain ⟨A4, c4, rfl, _, _⟩ := hown.form
  have hB : Bytes w4 A4 7 [2, 2, 0, 5, 1, 1, 97] := hown.bytes.2.2
  go_wp2_with fail
  refine (same _ A4 _ 7 c4 _ [2, 2, 0, 5, 1, 1, 97] (hB.keep (below_one _)) (Bytes.of_block (e := 5) (fr := (0, 0)) (l := [2, 2, 0, 5, 1, 1, 97]) (heap_alloc_new _ _) (by decide) (by decide))).mono ?_
  rintro e w5 ⟨rfl, hbw5⟩
  go_wp2_with fail
  go_ret
  have z1 := hbw1.size
  have z2 := hbw2.size
  have z3 := hbw3.size
  have z4 := hbw4.size
  have z5 := hbw5.size
  simp at z3 z5
  exact ⟨rfl, by ((repeat' first | with_reducible exact Below.refl _ _ | with_reducible assumption | with_reducible refine Below.alloc ?_ ?_ _ | with_reducible refine Below.setCell ?_ ?_ _ | with_reducible apply Below.drew | with_reducible apply below_drewN | with_reducible refine below_call ?_ (by with_reducible assumption) ?_) <;> (first | omega | (simp; done) | (simp; omega) | (simp at *; omega)))⟩
end Go.Proofs.Ytekbebekihcnpaa
