/- The walk of the law CodecKinds. -/
import Derived.Test.YtekbebekihcnpaaCodecL
import Derived.Test.YtekbebekihcnpaaPlain
import Derived.Test.YtekbebekihcnpaaAppG
namespace Go.Proofs.Ytekbebekihcnpaa
open Go.RowKit
set_option linter.unusedVariables false
set_option linter.unusedSimpArgs false
set_option maxRecDepth 20000
attribute [local go_sem ↓] Go.wp_at_zero Go.wp_at_succ
attribute [local go_sem] World.cell?_alloc_some frozen_alloc_some
attribute [local go_sem] lt2 lt3 lt4 lt5
attribute [local simp] lt2 lt3 lt4 lt5

def kA (v : Nat) : Tree := .mk 0 v ByteArray.empty []
def kB (s : ByteArray) : Tree := .mk 1 0 s []
def kC (v : Nat) (s : ByteArray) : Tree := .mk 2 0 ByteArray.empty [kA v, kB s]
theorem esize : ByteArray.empty.size = 0 := rfl
theorem perr_zero {t : Tree} (h : check t 0 = 0) (hl : (tform t).length ≤ 1048576) : perr t = 0 := by
  simp only [perr, h]
  simp
  exact hl
theorem pform_zero {t : Tree} (h : perr t = 0) : pform t = tform t := by simp [pform, h]
theorem kA_check (v d : Nat) (hd : d < 16) : check (kA v) d = 0 := by
  have : ¬ d = 16 := by omega
  simp [kA, check, checks, bad, esize, this]
theorem kB_check (s : ByteArray) (d : Nat) (hd : d < 16) : check (kB s) d = 0 := by
  have : ¬ d = 16 := by omega
  simp [kB, check, checks, bad, this]
theorem kC_check (v : Nat) (s : ByteArray) : check (kC v s) 0 = 0 := by
  simp [kC, check, checks, bad, esize, kA_check, kB_check]
theorem kA_form (v : Nat) : tform (kA v) = 0 :: form v := by simp [kA, tform]
theorem kB_form (s : ByteArray) : tform (kB s) = 1 :: (form s.size ++ txt s) := by simp [kB, tform]
theorem kC_form (v : Nat) (s : ByteArray) : tform (kC v s) = [2, 2] ++ (tform (kA v) ++ tform (kB s)) := by
  simp [kC, tform, tforms, form_small]
theorem kA_size (v : Nat) : tsize (kA v) = 1 := by simp [kA, tsize, tsizes, esize]
theorem kB_size (s : ByteArray) : tsize (kB s) = 1 + s.size := by simp [kB, tsize, tsizes]
theorem kC_size (v : Nat) (s : ByteArray) : tsize (kC v s) = 3 + s.size := by simp [kC, tsize, tsizes, kA_size, kB_size, esize]; omega

set_option maxHeartbeats 16000000 in
theorem kinds_walk (v : Nat) (s : ByteArray) (w : World) (hv : v < 2 ^ 64) (hsm : s.size ≤ maxLen) :
    Calls Try.prog 5 #[.int .u64 (v : Int), .string s] w (Gives w (.bool true)) := by
  have awake := awake03
  by_cases hs : 100 < s.size
  · have hs' : (100 : Int) < (s.size : Int) := by omega
    go_enter Try.func5, Try.ntmps5
    go_wp2_with fail
    refine (awake _).mono ?_
    rintro e w1 ⟨rfl, hbw1⟩
    go_wp2_with fail
    go_ret
    exact ⟨rfl, by ((repeat' first | with_reducible exact Below.refl _ _ | with_reducible assumption | with_reducible refine Below.alloc ?_ ?_ _ | with_reducible refine Below.setCell ?_ ?_ _ | with_reducible apply Below.drew | with_reducible apply below_drewN | with_reducible refine below_call ?_ (by with_reducible assumption) ?_) <;> (first | omega | (simp; done) | (simp; omega) | (simp at *; omega)))⟩
  have hs' : ¬ (100 : Int) < (s.size : Int) := by omega
  obtain ⟨i0, hi, hz0, hz1, hz2⟩ := info_parts info_u8
  have hnum := num_any v
  have htxt := codectext_any s
  have hFv := form_len hv
  have hFs := form_len (v := s.size) (by omega)
  have lA : (tform (kA v)).length = 1 + (form v).length := by rw [kA_form]; simp; omega
  have lB : (tform (kB s)).length = 1 + (form s.size).length + s.size := by rw [kB_form]; simp [txt_length]; omega
  have lC : (tform (kC v s)).length = 2 + (tform (kA v)).length + (tform (kB s)).length := by rw [kC_form]; simp; omega
  have pA := perr_zero (kA_check v 0 (by omega)) (by omega)
  have pB := perr_zero (kB_check s 0 (by omega)) (by omega)
  have pC := perr_zero (kC_check v s) (by omega)
  have hpA : ∀ x W, Holds W (kA v) x → Calls Try.prog 12 #[x] W (Puts W .i64 5 (tform (kA v)) 0) := fun x W h => by
    have := put3_any (kA v) x W (by rw [kA_size]; omega) h
    rwa [pform_zero pA, pA] at this
  have hpB : ∀ x W, Holds W (kB s) x → Calls Try.prog 12 #[x] W (Puts W .i64 5 (tform (kB s)) 0) := fun x W h => by
    have := put3_any (kB s) x W (by rw [kB_size]; omega) h
    rwa [pform_zero pB, pB] at this
  have hpC : ∀ x W, Holds W (kC v s) x → Calls Try.prog 12 #[x] W (Puts W .i64 5 (tform (kC v s)) 0) := fun x W h => by
    have := put3_any (kC v s) x W (by rw [kC_size]; omega) h
    rwa [pform_zero pC, pC] at this
  have nAB : tsame (kA v) (kB s) = false := tsame_no (by intro h; injection h with h; exact absurd h (by decide))
  have nBC : tsame (kB s) (kC v s) = false := tsame_no (by intro h; injection h with h; exact absurd h (by decide))
  have nAC : tsame (kA v) (kC v s) = false := tsame_no (by intro h; injection h with h; exact absurd h (by decide))
  have hAB : tform (kA v) ≠ tform (kB s) := by rw [kA_form, kB_form]; simp
  have hZ := kC_form v s
  have yB := tform_bytes (kB s) (holds_text default (by unfold maxLen; omega)).fit
  have yA := tform_bytes (kA v) (holds_num default hv).fit
  have lA' : (tform (kA v)).length ≤ 10 := by omega
  have lB' : (tform (kB s)).length ≤ 200 := by omega
  have LC := Lib.hid lC
  clear pA pB pC lA lB lC
  go_enter Try.func5, Try.ntmps5
  go_wp2_with fail
  refine (hnum _).mono ?_
  rintro e w1 ⟨rfl, hbw1⟩
  unfold numV
  go_wp2_with fail
  refine (htxt _).mono ?_
  rintro e w2 ⟨rfl, hbw2⟩
  unfold textV
  go_wp2_with fail
  refine (hnum _).mono ?_
  rintro e w3 ⟨rfl, hbw3⟩
  unfold numV
  go_wp2_with fail
  refine (htxt _).mono ?_
  rintro e w4 ⟨rfl, hbw4⟩
  unfold textV
  go_wp2_with fail
  have hit : Items (w4.alloc (.cells #[.int .i64 0, .int .u64 (v : Int), .string ByteArray.empty, .slice none 0 0, .int .i64 1, .int .u64 0, .string s, .slice none 0 0] 25)) (some ⟨w4.heap.size, 0, none⟩) 2 2 [kA v, kB s] :=
    items_block (vs := fun i => match i with | 0 => numV v | _ => textV s) (fr := (0, 0)) (heap_alloc_new _ _) rfl (by decide) (fun i t hi => by
      match i with
      | 0 => simp at hi; subst hi; exact holds_num _ hv
      | 1 => simp at hi; subst hi; exact holds_text _ hsm
      | i + 2 => simp at hi)
  refine (codeclist_any _ 2 2 _ _ hit (by decide)).mono ?_
  rintro e w5 ⟨x, rfl, hx, hbw5⟩
  have z1 := hbw1.size
  have z2 := hbw2.size
  have z3 := hbw3.size
  have z4 := hbw4.size
  have z5 := hbw5.size
  simp at z5
  have hb5 : Below w.heap.size w w5 := by ((repeat' first | with_reducible exact Below.refl _ _ | with_reducible assumption | with_reducible refine Below.alloc ?_ ?_ _ | with_reducible refine Below.setCell ?_ ?_ _ | with_reducible apply Below.drew | with_reducible apply below_drewN | with_reducible refine below_call ?_ (by with_reducible assumption) ?_) <;> (first | omega | (simp; done) | (simp; omega) | (simp at *; omega)))
  have hxC : Holds w5 (kC v s) x := hx
  obtain ⟨Ax, mx, cx, rfl, -⟩ := hx.open_
  clear hit hnum htxt hx hbw1 hbw2 hbw3 hbw4 hbw5
  go_wp2_with fail
  have hW6 : Below w5.heap.size w5 (((w5.alloc (.cells #[.int .i64 0, .int .u64 (v : Int), .string ByteArray.empty, .slice none 0 0] 25)).alloc (.cells #[.int .i64 1, .int .u64 0, .string s, .slice none 0 0] 25)).alloc (.cells #[.int .i64 2, .int .u64 0, .string ByteArray.empty, .slice Ax mx cx] 25)) := by ((repeat' first | with_reducible exact Below.refl _ _ | with_reducible assumption | with_reducible refine Below.alloc ?_ ?_ _ | with_reducible refine Below.setCell ?_ ?_ _ | with_reducible apply Below.drew | with_reducible apply below_drewN | with_reducible refine below_call ?_ (by with_reducible assumption) ?_) <;> (first | omega | (simp; done) | (simp; omega) | (simp at *; omega)))
  have a0 : World.cell? (((w5.alloc (.cells #[.int .i64 0, .int .u64 (v : Int), .string ByteArray.empty, .slice none 0 0] 25)).alloc (.cells #[.int .i64 1, .int .u64 0, .string s, .slice none 0 0] 25)).alloc (.cells #[.int .i64 2, .int .u64 0, .string ByteArray.empty, .slice Ax mx cx] 25)) ⟨w5.heap.size, 0, none⟩ = some (.int .i64 0) := by simp [go_sem]
  have a1 : World.cell? (((w5.alloc (.cells #[.int .i64 0, .int .u64 (v : Int), .string ByteArray.empty, .slice none 0 0] 25)).alloc (.cells #[.int .i64 1, .int .u64 0, .string s, .slice none 0 0] 25)).alloc (.cells #[.int .i64 2, .int .u64 0, .string ByteArray.empty, .slice Ax mx cx] 25)) ⟨w5.heap.size, 1, none⟩ = some (.int .u64 (v : Int)) := by simp [go_sem]
  have a2 : World.cell? (((w5.alloc (.cells #[.int .i64 0, .int .u64 (v : Int), .string ByteArray.empty, .slice none 0 0] 25)).alloc (.cells #[.int .i64 1, .int .u64 0, .string s, .slice none 0 0] 25)).alloc (.cells #[.int .i64 2, .int .u64 0, .string ByteArray.empty, .slice Ax mx cx] 25)) ⟨w5.heap.size, 2, none⟩ = some (.string ByteArray.empty) := by simp [go_sem]
  have a3 : World.cell? (((w5.alloc (.cells #[.int .i64 0, .int .u64 (v : Int), .string ByteArray.empty, .slice none 0 0] 25)).alloc (.cells #[.int .i64 1, .int .u64 0, .string s, .slice none 0 0] 25)).alloc (.cells #[.int .i64 2, .int .u64 0, .string ByteArray.empty, .slice Ax mx cx] 25)) ⟨w5.heap.size, 3, none⟩ = some (.slice none 0 0) := by simp [go_sem]
  have b0 : World.cell? (((w5.alloc (.cells #[.int .i64 0, .int .u64 (v : Int), .string ByteArray.empty, .slice none 0 0] 25)).alloc (.cells #[.int .i64 1, .int .u64 0, .string s, .slice none 0 0] 25)).alloc (.cells #[.int .i64 2, .int .u64 0, .string ByteArray.empty, .slice Ax mx cx] 25)) ⟨w5.heap.size + 1, 0, none⟩ = some (.int .i64 1) := by simp [go_sem]
  have b1 : World.cell? (((w5.alloc (.cells #[.int .i64 0, .int .u64 (v : Int), .string ByteArray.empty, .slice none 0 0] 25)).alloc (.cells #[.int .i64 1, .int .u64 0, .string s, .slice none 0 0] 25)).alloc (.cells #[.int .i64 2, .int .u64 0, .string ByteArray.empty, .slice Ax mx cx] 25)) ⟨w5.heap.size + 1, 1, none⟩ = some (.int .u64 0) := by simp [go_sem]
  have b2 : World.cell? (((w5.alloc (.cells #[.int .i64 0, .int .u64 (v : Int), .string ByteArray.empty, .slice none 0 0] 25)).alloc (.cells #[.int .i64 1, .int .u64 0, .string s, .slice none 0 0] 25)).alloc (.cells #[.int .i64 2, .int .u64 0, .string ByteArray.empty, .slice Ax mx cx] 25)) ⟨w5.heap.size + 1, 2, none⟩ = some (.string s) := by simp [go_sem]
  have b3 : World.cell? (((w5.alloc (.cells #[.int .i64 0, .int .u64 (v : Int), .string ByteArray.empty, .slice none 0 0] 25)).alloc (.cells #[.int .i64 1, .int .u64 0, .string s, .slice none 0 0] 25)).alloc (.cells #[.int .i64 2, .int .u64 0, .string ByteArray.empty, .slice Ax mx cx] 25)) ⟨w5.heap.size + 1, 3, none⟩ = some (.slice none 0 0) := by simp [go_sem]
  have c0 : World.cell? (((w5.alloc (.cells #[.int .i64 0, .int .u64 (v : Int), .string ByteArray.empty, .slice none 0 0] 25)).alloc (.cells #[.int .i64 1, .int .u64 0, .string s, .slice none 0 0] 25)).alloc (.cells #[.int .i64 2, .int .u64 0, .string ByteArray.empty, .slice Ax mx cx] 25)) ⟨w5.heap.size + 1 + 1, 0, none⟩ = some (.int .i64 2) := by simp [go_sem]
  have c1 : World.cell? (((w5.alloc (.cells #[.int .i64 0, .int .u64 (v : Int), .string ByteArray.empty, .slice none 0 0] 25)).alloc (.cells #[.int .i64 1, .int .u64 0, .string s, .slice none 0 0] 25)).alloc (.cells #[.int .i64 2, .int .u64 0, .string ByteArray.empty, .slice Ax mx cx] 25)) ⟨w5.heap.size + 1 + 1, 1, none⟩ = some (.int .u64 0) := by simp [go_sem]
  have c2 : World.cell? (((w5.alloc (.cells #[.int .i64 0, .int .u64 (v : Int), .string ByteArray.empty, .slice none 0 0] 25)).alloc (.cells #[.int .i64 1, .int .u64 0, .string s, .slice none 0 0] 25)).alloc (.cells #[.int .i64 2, .int .u64 0, .string ByteArray.empty, .slice Ax mx cx] 25)) ⟨w5.heap.size + 1 + 1, 2, none⟩ = some (.string ByteArray.empty) := by simp [go_sem]
  have c3 : World.cell? (((w5.alloc (.cells #[.int .i64 0, .int .u64 (v : Int), .string ByteArray.empty, .slice none 0 0] 25)).alloc (.cells #[.int .i64 1, .int .u64 0, .string s, .slice none 0 0] 25)).alloc (.cells #[.int .i64 2, .int .u64 0, .string ByteArray.empty, .slice Ax mx cx] 25)) ⟨w5.heap.size + 1 + 1, 3, none⟩ = some (.slice Ax mx cx) := by simp [go_sem]
  have hxC6 := hxC.keep hW6
  refine (hpA _ _ (holds_num _ hv)).mono ?_
  rintro e w6 ⟨bA, rfl, hownA, hbw6⟩
  obtain ⟨AA, cA, rfl, _, _⟩ := hownA.form
  replace a0 := cell_keep hbw6 a0
  replace a1 := cell_keep hbw6 a1
  replace a2 := cell_keep hbw6 a2
  replace a3 := cell_keep hbw6 a3
  replace b0 := cell_keep hbw6 b0
  replace b1 := cell_keep hbw6 b1
  replace b2 := cell_keep hbw6 b2
  replace b3 := cell_keep hbw6 b3
  replace c0 := cell_keep hbw6 c0
  replace c1 := cell_keep hbw6 c1
  replace c2 := cell_keep hbw6 c2
  replace c3 := cell_keep hbw6 c3
  have z6 := hbw6.size
  simp at z6
  have hxC7 := hxC6.keep hbw6
  have hb6 : Below w.heap.size w w6 := by ((repeat' first | with_reducible exact Below.refl _ _ | with_reducible assumption | with_reducible refine Below.alloc ?_ ?_ _ | with_reducible refine Below.setCell ?_ ?_ _ | with_reducible apply Below.drew | with_reducible apply below_drewN | with_reducible refine below_call ?_ (by with_reducible assumption) ?_) <;> (first | omega | (simp; done) | (simp; omega) | (simp at *; omega)))
  go_wp2_with fail
  refine (hpB _ _ (holds_text _ hsm)).mono ?_
  rintro e w7 ⟨bB, rfl, hownB, hbw7⟩
  obtain ⟨AB, cB, rfl, _, _⟩ := hownB.form
  replace a0 := cell_keep hbw7 a0
  replace a1 := cell_keep hbw7 a1
  replace a2 := cell_keep hbw7 a2
  replace a3 := cell_keep hbw7 a3
  replace b0 := cell_keep hbw7 b0
  replace b1 := cell_keep hbw7 b1
  replace b2 := cell_keep hbw7 b2
  replace b3 := cell_keep hbw7 b3
  replace c0 := cell_keep hbw7 c0
  replace c1 := cell_keep hbw7 c1
  replace c2 := cell_keep hbw7 c2
  replace c3 := cell_keep hbw7 c3
  have z7 := hbw7.size
  have hxC8 := hxC7.keep hbw7
  have hb7 : Below w.heap.size w w7 := by ((repeat' first | with_reducible exact Below.refl _ _ | with_reducible assumption | with_reducible refine Below.alloc ?_ ?_ _ | with_reducible refine Below.setCell ?_ ?_ _ | with_reducible apply Below.drew | with_reducible apply below_drewN | with_reducible refine below_call ?_ (by with_reducible assumption) ?_) <;> (first | omega | (simp; done) | (simp; omega) | (simp at *; omega)))
  go_wp2_with fail
  refine (hpC _ _ hxC8).mono ?_
  rintro e w8 ⟨bC, rfl, hownC, hbw8⟩
  obtain ⟨AC, cC, rfl, hlC, hcC⟩ := hownC.form
  replace a0 := cell_keep hbw8 a0
  replace a1 := cell_keep hbw8 a1
  replace a2 := cell_keep hbw8 a2
  replace a3 := cell_keep hbw8 a3
  replace b0 := cell_keep hbw8 b0
  replace b1 := cell_keep hbw8 b1
  replace b2 := cell_keep hbw8 b2
  replace b3 := cell_keep hbw8 b3
  replace c0 := cell_keep hbw8 c0
  replace c1 := cell_keep hbw8 c1
  replace c2 := cell_keep hbw8 c2
  replace c3 := cell_keep hbw8 c3
  have z8 := hbw8.size
  have hxC9 := hxC8.keep hbw8
  have hb8 : Below w.heap.size w w8 := by ((repeat' first | with_reducible exact Below.refl _ _ | with_reducible assumption | with_reducible refine Below.alloc ?_ ?_ _ | with_reducible refine Below.setCell ?_ ?_ _ | with_reducible apply Below.drew | with_reducible apply below_drewN | with_reducible refine below_call ?_ (by with_reducible assumption) ?_) <;> (first | omega | (simp; done) | (simp; omega) | (simp at *; omega)))
  have hBA := ((hownA.keep hbw7).keep hbw8).bytes.2.2
  have hBB := (hownB.keep hbw8).bytes.2.2
  have hBC := hownC.bytes.2.2
  have sAB := fun W (h : Below w8.heap.size w8 W) => codecsame_any (kA v) (kB s) _ _ W (holds_num W hv) (holds_text W hsm)
  have sBC := fun W (h : Below w8.heap.size w8 W) => codecsame_any (kB s) (kC v s) _ _ W (holds_text W hsm) (hxC9.keep h)
  have sAC := fun W (h : Below w8.heap.size w8 W) => codecsame_any (kA v) (kC v s) _ _ W (holds_num W hv) (hxC9.keep h)
  rw [nAB] at sAB
  rw [nBC] at sBC
  rw [nAC] at sAC
  have hBC2 := hBC.cutFrom (k := 2) (cap := cC) (by have := LC.out; omega) hlC
  have hZ2 : (tform (kC v s)).drop 2 = tform (kA v) ++ tform (kB s) := by rw [hZ]; rfl
  rw [hZ2] at hBC2
  obtain ⟨gC, rfl⟩ : ∃ gC, AC = some ⟨gC, 0, none⟩ := by
    rcases hownC.1.2 with ⟨hv, hl⟩ | ⟨g, cap, cur, hv, _⟩
    · have := LC.out; omega
    · injection hv with hv _ _; exact ⟨g, hv⟩
  have hadd : (⟨gC, 0, none⟩ : Addr).add 2 = ⟨gC, 2, none⟩ := by simp [Addr.add]
  rw [Option.map_some, hadd] at hBC2
  obtain ⟨B2, hB2⟩ : ∃ B2, (if cC = 2 then some (⟨gC, 0, none⟩ : Addr) else some ⟨gC, 2, none⟩) = B2 := ⟨_, rfl⟩
  rw [hB2] at hBC2
  have HAB := Lib.hid hAB
  clear hxC hxC6 hxC7 hxC8 hxC9 hpA hpB hpC hW6 hbw6 hbw7 hbw8 hZ hZ2 nAB nBC nAC hAB
  have l1 : (tform (kC v s)).length = (tform (kA v)).length + (tform (kB s)).length + 2 := by have := LC.out; omega
  generalize tform (kC v s) = Z at *
  generalize tform (kA v) = X at *
  generalize tform (kB s) = Y at *
  have hne : ((Z.length : Int) != (X.length : Int) + (Y.length : Int) + 2) = false := by simp; omega
  unfold numV textV at sAB
  unfold textV at sBC
  unfold numV at sAC
  have L1 := Lib.hid l1
  clear l1 LC
  go_wp2_with fail
  refine (sAB _ (by ((repeat' first | with_reducible exact Below.refl _ _ | with_reducible assumption | with_reducible refine Below.alloc ?_ ?_ _ | with_reducible refine Below.setCell ?_ ?_ _ | with_reducible apply Below.drew | with_reducible apply below_drewN | with_reducible refine below_call ?_ (by with_reducible assumption) ?_) <;> (first | omega | (simp; done) | (simp; omega) | (simp at *; omega))))).mono ?_
  rintro e w9 ⟨rfl, hbw9⟩
  have z9 := hbw9.size
  replace a0 := cell_keep hbw9 a0
  replace a1 := cell_keep hbw9 a1
  replace a2 := cell_keep hbw9 a2
  replace a3 := cell_keep hbw9 a3
  replace b0 := cell_keep hbw9 b0
  replace b1 := cell_keep hbw9 b1
  replace b2 := cell_keep hbw9 b2
  replace b3 := cell_keep hbw9 b3
  replace c0 := cell_keep hbw9 c0
  replace c1 := cell_keep hbw9 c1
  replace c2 := cell_keep hbw9 c2
  replace c3 := cell_keep hbw9 c3
  have hk9 : Below w8.heap.size w8 w9 := by ((repeat' first | with_reducible exact Below.refl _ _ | with_reducible assumption | with_reducible refine Below.alloc ?_ ?_ _ | with_reducible refine Below.setCell ?_ ?_ _ | with_reducible apply Below.drew | with_reducible apply below_drewN | with_reducible refine below_call ?_ (by with_reducible assumption) ?_) <;> (first | omega | (simp; done) | (simp; omega) | (simp at *; omega)))
  go_wp2_with fail
  refine (sBC _ hk9).mono ?_
  rintro e w10 ⟨rfl, hbw10⟩
  have z10 := hbw10.size
  replace a0 := cell_keep hbw10 a0
  replace a1 := cell_keep hbw10 a1
  replace a2 := cell_keep hbw10 a2
  replace a3 := cell_keep hbw10 a3
  replace b0 := cell_keep hbw10 b0
  replace b1 := cell_keep hbw10 b1
  replace b2 := cell_keep hbw10 b2
  replace b3 := cell_keep hbw10 b3
  replace c0 := cell_keep hbw10 c0
  replace c1 := cell_keep hbw10 c1
  replace c2 := cell_keep hbw10 c2
  replace c3 := cell_keep hbw10 c3
  have hk10 : Below w8.heap.size w8 w10 := by ((repeat' first | with_reducible exact Below.refl _ _ | with_reducible assumption | with_reducible refine Below.alloc ?_ ?_ _ | with_reducible refine Below.setCell ?_ ?_ _ | with_reducible apply Below.drew | with_reducible apply below_drewN | with_reducible refine below_call ?_ (by with_reducible assumption) ?_) <;> (first | omega | (simp; done) | (simp; omega) | (simp at *; omega)))
  go_wp2_with fail
  refine (sAC _ hk10).mono ?_
  rintro e w11 ⟨rfl, hbw11⟩
  have z11 := hbw11.size
  have hk11 : Below w8.heap.size w8 w11 := by ((repeat' first | with_reducible exact Below.refl _ _ | with_reducible assumption | with_reducible refine Below.alloc ?_ ?_ _ | with_reducible refine Below.setCell ?_ ?_ _ | with_reducible apply Below.drew | with_reducible apply below_drewN | with_reducible refine below_call ?_ (by with_reducible assumption) ?_) <;> (first | omega | (simp; done) | (simp; omega) | (simp at *; omega)))
  clear a0 a1 a2 a3 b0 b1 b2 b3 c0 c1 c2 c3 sAB sBC sAC
  go_wp2_with fail
  have hs1 := same_any AA AB X.length Y.length cA cB X Y
  rw [show decide (X = Y) = false by simpa using HAB.out] at hs1
  have hs2 := fun (A : Option Addr) (n m c d : Nat) W (h1 : Bytes W A n (X ++ Y)) (B : Option Addr) (h2 : Bytes W B m (X ++ Y)) => same_any A B n m c d _ _ W h1 h2
  simp only [decide_true] at hs2
  clear hbw9 hbw10 hbw11 hk9 hk10
  have i1 : (2 : Int) ≤ (Z.length : Int) := by have := L1.out; omega
  have i2 : 2 ≤ Z.length := by omega
  have i3 : (2 : Int) ≤ (cC : Int) := by omega
  have i4 : (Z.length : Int) ≤ (cC : Int) := by omega
  go_region_held3 (fun w' => Below w11.heap.size w11 w') ((go_split_ands; first | with_reducible assumption | ((repeat' first | with_reducible exact Below.refl _ _ | with_reducible assumption | with_reducible refine Below.alloc ?_ ?_ _ | with_reducible refine Below.setCell ?_ ?_ _ | with_reducible apply Below.drew | with_reducible apply below_drewN | with_reducible refine below_call ?_ (by with_reducible assumption) ?_) <;> (first | omega | (simp; done) | (simp; omega) | (simp at *; omega))) | (with_reducible exact hk14) | (with_reducible exact hk13)))
    (first
      | ((((refine step_app' (by rfl) (.tmp 88) (.tmp 89) 28 rfl _ 5 i0 _ 1 1 Try.underlying28 hi hz0 hz1 hz2 rfl (by omega) _ _ _ rfl hown13.1 _ _ _ _ rfl hsrcB ?h63 ?hby ?hbase ?_); (case h63 => (unfold maxLen; first | omega | (simp; done) | (simp; omega))); (case hby => first | omega | (simp; done) | (simp; omega)); (case hbase => first | omega | (simp; done) | (simp; omega)); intro v14 w14 hownw14 hgroww14 hatw14 holdw14)); have hk14 := below_app (B := w11.heap.size) hk13 hown13.1 hgroww14 (by omega) hz13; have hown14 := OwnB.join hownw14 hown13.2 yB; obtain ⟨A14, c14, rfl, _, _⟩ := hown14.form; have hz14 := hk14.size; have hB14 := hown14.bytes.2.2; (rw [List.length_append] at hB14))
      | ((((refine step_app' (by rfl) (.tmp 86) (.tmp 87) 28 rfl _ 5 i0 _ 1 1 Try.underlying28 hi hz0 hz1 hz2 rfl (by omega) _ _ _ rfl hmade.1 _ _ _ _ rfl hsrcA ?h63 ?hby ?hbase ?_); (case h63 => (unfold maxLen; first | omega | (simp; done) | (simp; omega))); (case hby => first | omega | (simp; done) | (simp; omega)); (case hbase => first | omega | (simp; done) | (simp; omega)); intro v13 w13 hownw13 hgroww13 hatw13 holdw13)); have hk13 := below_app (B := w11.heap.size) hkm hmade.1 hgroww13 (by omega) (by simp; omega); have hz13 := hk13.size; have hg13 := hgroww13.size; (simp at hg13); have hown13 : OwnB w13 w12.heap.size 5 v13 X := (OwnB.join (l := []) hownw13 (by simp) yA); obtain ⟨A13, c13, rfl, _, _⟩ := hown13.form; have hsrcB := Src.of_bytes (hBB.keep (hk11.trans (hk13.mono (by omega)))))
      | (go_at_call 14; ((with_reducible refine (hs1 _ (hBA.keep hk11.drew) (hBB.keep hk11.drew)).mono ?_); rintro e w12 ⟨rfl, hbw12⟩; have hk12 : Below w11.heap.size w11 w12 := (by ((repeat' first | with_reducible exact Below.refl _ _ | with_reducible assumption | with_reducible refine Below.alloc ?_ ?_ _ | with_reducible refine Below.setCell ?_ ?_ _ | with_reducible apply Below.drew | with_reducible apply below_drewN | with_reducible refine below_call ?_ (by with_reducible assumption) ?_) <;> (first | omega | (simp; done) | (simp; omega) | (simp at *; omega)))); have hz12 := hk12.size; have hmade := OwnB.made (w := w12) (e := 5) (base := w12.heap.size) (Nat.le_refl _); have hkm : Below w11.heap.size w11 (w12.alloc (.cells #[] 5)) := (by ((repeat' first | with_reducible exact Below.refl _ _ | with_reducible assumption | with_reducible refine Below.alloc ?_ ?_ _ | with_reducible refine Below.setCell ?_ ?_ _ | with_reducible apply Below.drew | with_reducible apply below_drewN | with_reducible refine below_call ?_ (by with_reducible assumption) ?_) <;> (first | omega | (simp; done) | (simp; omega) | (simp at *; omega)))); have hsrcA := Src.of_bytes (hBA.keep (hk11.trans (hkm.mono (by omega))))))
      | (go_at_call 14; ((with_reducible refine (hs2 _ _ _ _ _ _ (hBC2.keep (hk11.trans (hk14.mono (by omega)))) _ hB14).mono ?_); rintro e w15 ⟨rfl, hbw15⟩; have hk15 : Below w11.heap.size w11 w15 := below_call hk14 hbw15 hz14; have hz15 := hk15.size))
      | (go_at_call 11; ((with_reducible refine (awake _).mono ?_); rintro e w16 ⟨rfl, hbw16⟩; have hk16 : Below w11.heap.size w11 w16 := below_call hk15 hbw16 hz15)))
  all_goals
    go_wp2_with fail
    go_ret
    have z8' := hb8.size
    exact ⟨rfl, (hb8.trans (hk11.mono (by omega))).trans (Below.mono (by assumption) (by omega))⟩
end Go.Proofs.Ytekbebekihcnpaa
