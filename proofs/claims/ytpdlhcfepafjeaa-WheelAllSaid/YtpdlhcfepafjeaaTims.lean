/- Slices of timers in memory; the document's timers: ahead, Find, Out, Set, Due. -/
import Derived.Test.YtpdlhcfepafjeaaWhMap
import Derived.Test.YtpdlhcfepafjeaaRef05
import Derived.Test.YtpdlhcfepafjeaaAppC
import Derived.WalkKit
import Derived.WalkSpells
import Derived.WalkLawsBesides
import Derived.Deep.RegionHeld3
import Derived.Deep.DrawnRows
import Derived.Deep.DeepCutAuto
import Derived.Deep.DeepFit
import Derived.Lib.Hide
import Derived.BigQuiet
import Derived.Deep.QuietTactic
import Derived.Deep.RegionHeld3
namespace Go.Proofs.Ytpdlhcfepafjeaa
open Go.RowKit
set_option linter.unusedVariables false
set_option linter.unusedSimpArgs false
set_option maxRecDepth 20000
attribute [local go_sem ↓] Go.wp_at_zero Go.wp_at_succ
attribute [local go_sem] World.cell?_alloc_some frozen_alloc_some
attribute [local go_sem ↓ high] id_neq_run id_eql_run

abbrev timV (t : TimT) : Value := .agg #[.int .i64 t.1.1, .int .i64 t.1.2, .int .i64 t.2]
def timL (t : TimT) : List Value := [.int .i64 t.1.1, .int .i64 t.1.2, .int .i64 t.2]
def flatT (x : List TimT) : List Value := x.flatMap timL
theorem flatT_length (x : List TimT) : (flatT x).length = x.length * 3 := by
  induction x with
  | nil => rfl
  | cons s r ih => simp only [flatT, List.flatMap_cons, List.length_append, List.length_cons] at ih ⊢; rw [ih]; simp [timL]; omega
theorem flatT_get : ∀ (x : List TimT) (i : Nat) (t : TimT), x[i]? = some t → ∀ (j : Nat) (v : Value), (timL t)[j]? = some v → (flatT x)[i * 3 + j]? = some v
  | [], i, s, h, _, _, _ => by simp at h
  | a :: r, 0, s, h, j, v, hv => by
    simp at h; subst h
    have hj : j < 3 := by
      rcases Nat.lt_or_ge j 3 with h' | h'
      · exact h'
      · rw [List.getElem?_eq_none (by exact h')] at hv; cases hv
    rw [Nat.zero_mul, Nat.zero_add, flatT, List.flatMap_cons, List.getElem?_append_left (by exact hj)]
    exact hv
  | a :: r, i + 1, s, h, j, v, hv => by
    rw [List.getElem?_cons_succ] at h
    have := flatT_get r i s h j v hv
    have hl : (timL a).length = 3 := rfl
    rw [flatT, List.flatMap_cons, List.getElem?_append_right (by rw [hl]; omega), hl, show (i + 1) * 3 + j - 3 = i * 3 + j by omega]
    exact this
theorem flatT_snoc (x : List TimT) (t : TimT) : flatT (x ++ [t]) = flatT x ++ timL t := by simp [flatT]
theorem src_tim {w : World} {e : TypeId} (t : TimT) : Src (w.alloc (.cells #[.int .i64 t.1.1, .int .i64 t.1.2, .int .i64 t.2] e)) 3 (some ⟨w.heap.size, 0, none⟩) 1 (timL t) := by
  refine ⟨rfl, fun j u hj => ⟨_, rfl, ?_⟩, fun u hu => ?_⟩
  · have hadd : (⟨w.heap.size, 0, none⟩ : Addr).add j = ⟨w.heap.size, j, none⟩ := by unfold Addr.add; split <;> simp_all
    rw [hadd]
    exact (new_cell w #[.int .i64 t.1.1, .int .i64 t.1.2, .int .i64 t.2] e j (by simpa [timL] using hj)).1
  · simp only [timL, List.mem_cons, List.not_mem_nil, or_false] at hu
    rcases hu with rfl | rfl | rfl <;> rfl
theorem timinfo : ∃ i, Try.prog.info? 46 = some i ∧ i.zero = some (.agg #[.int .i64 0, .int .i64 0, .int .i64 0]) ∧ i.size = 3 ∧ i.bytes = 24 := by
  have h : (Try.prog.info? 46).map (fun i => (i.zero, i.size, i.bytes)) = some (some (.agg #[.int .i64 0, .int .i64 0, .int .i64 0]), 3, 24) := by kernel_rfl
  cases hi : Try.prog.info? 46 with
  | none => rw [hi] at h; cases h
  | some i => rw [hi] at h; simp only [Option.map_some, Option.some.injEq, Prod.mk.injEq] at h; exact ⟨i, rfl, h.1, h.2.1, h.2.2⟩
theorem ownT_form {w : World} {base : Nat} {e : TypeId} {size : Nat} {v : Value} {n : Nat} {xs : List Value} (h : w.ownsRow base e size v n xs) : ∃ A c, v = .slice A n c ∧ n ≤ c ∧ c ≤ maxLen := by
  rcases h.2 with ⟨rfl, rfl⟩ | ⟨g, cap, cur, rfl, _, _, hle, hm, _⟩
  · exact ⟨none, 0, rfl, Nat.le_refl _, Nat.zero_le _⟩
  · exact ⟨_, cap, rfl, hle, hm⟩
theorem ownT_keep {w w' : World} {base : Nat} {e : TypeId} {size : Nat} {v : Value} {n : Nat} {xs : List Value} (h : w.ownsRow base e size v n xs) (hb : Below w.heap.size w w') : w'.ownsRow base e size v n xs := (Cells.of_below hb).own h

/-- A slice of timers, nil let in, that reads as the list x. -/
def TimsAt (w : World) (A : Option Addr) (m : Nat) (x : List TimT) : Prop :=
  m = x.length ∧ m ≤ maxLen ∧ ∀ (i : Nat) (t : TimT), x[i]? = some t → (wfI t.1 ∧ (Lit.int .i64 t.2).wf = true) ∧
    ∃ b o, A = some ⟨b, o, none⟩ ∧ w.cell? ⟨b, o + i * 3, none⟩ = some (.int .i64 t.1.1) ∧ w.cell? ⟨b, o + i * 3 + 1, none⟩ = some (.int .i64 t.1.2) ∧ w.cell? ⟨b, o + i * 3 + 2, none⟩ = some (.int .i64 t.2)
theorem TimsAt.turn {w w' : World} {A : Option Addr} {m : Nat} {x : List TimT} (h : TimsAt w A m x) (hc : Cells w w') : TimsAt w' A m x :=
  ⟨h.1, h.2.1, fun i t hi => by
    obtain ⟨h1, b, o, e, h2, h3, h4⟩ := h.2.2 i t hi
    exact ⟨h1, b, o, e, hc.cell h2, hc.cell h3, hc.cell h4⟩⟩
theorem TimsAt.keep {w w' : World} {A : Option Addr} {m : Nat} {x : List TimT} (h : TimsAt w A m x) (hb : Below w.heap.size w w') : TimsAt w' A m x := h.turn (.of_below hb)
theorem TimsAt.nil {w : World} {A : Option Addr} : TimsAt w A 0 [] := ⟨rfl, Nat.zero_le _, fun i x h => by simp at h⟩
theorem TimsAt.at_ {w : World} {A : Option Addr} {m : Nat} {x : List TimT} (h : TimsAt w A m x) {i : Nat} (hi : i < m) :
    ∃ r n a b o, x[i]? = some ((r, n), a) ∧ wfI (r, n) ∧ (Lit.int .i64 a).wf = true ∧ A = some ⟨b, o, none⟩ ∧ w.cell? ⟨b, o + i * 3, none⟩ = some (.int .i64 r) ∧ w.cell? ⟨b, o + i * 3 + 1, none⟩ = some (.int .i64 n) ∧ w.cell? ⟨b, o + i * 3 + 2, none⟩ = some (.int .i64 a) := by
  have hl : i < x.length := by rw [← h.1]; exact hi
  obtain ⟨h1, b, o, e, h2, h3, h4⟩ := h.2.2 i x[i] (List.getElem?_eq_getElem hl)
  exact ⟨_, _, _, b, o, List.getElem?_eq_getElem hl, h1.1, h1.2, e, h2, h3, h4⟩
theorem tims_own {w : World} {base : Nat} {e : TypeId} {A : Option Addr} {m c : Nat} {x : List TimT} (h : w.ownsRow base e 3 (.slice A m c) m (flatT x)) (hm : m = x.length) (hl : m ≤ maxLen) (hok : ∀ t ∈ x, wfI t.1 ∧ (Lit.int .i64 t.2).wf = true) : TimsAt w A m x := by
  refine ⟨hm, hl, fun i t hi => ⟨hok t (List.mem_of_getElem? hi), ?_⟩⟩
  have him : i < m := by
    rw [hm]
    exact (List.getElem?_eq_some_iff.1 hi).1
  rcases h.2 with ⟨_, h0⟩ | ⟨g, cap, cur, hv, hb, hg, hn, hcm, hs, ht⟩
  · omega
  · injection hv with hA _ _
    subst hA
    have key : ∀ (j : Nat) (v : Value), (timL t)[j]? = some v → w.cell? ⟨g, i * 3 + j, none⟩ = some v := fun j v hj => by
      have hf := flatT_get x i t hi j v hj
      rw [← ht, List.getElem?_take] at hf
      rw [cell_of_row w g (i * 3 + j) cur e (0, 0) hg, ← Array.getElem?_toList]
      split at hf
      · exact hf
      · cases hf
    refine ⟨g, 0, rfl, ?_, ?_, ?_⟩
    · have := key 0 _ rfl; simpa using this
    · have := key 1 _ rfl; simpa using this
    · have := key 2 _ rfl; simpa using this
theorem TimsAt.drop {w : World} {A : Option Addr} {m c : Nat} {x : List TimT} (h : TimsAt w A m x) {k : Nat} (hk : k ≤ m) (hc : m ≤ c) : TimsAt w (if c = k then A else A.map (·.add (k * 3))) (m - k) (x.drop k) :=
  ⟨by rw [List.length_drop, h.1], by have := h.2.1; omega, fun i t hi => by
    rw [List.getElem?_drop] at hi
    obtain ⟨h1, b, o, rfl, h2, h3, h4⟩ := h.2.2 (k + i) t hi
    have hlt : k + i < x.length := (List.getElem?_eq_some_iff.1 hi).1
    have := h.1
    rw [if_neg (by omega)]
    have e : (Addr.mk b o none).add (k * 3) = ⟨b, o + k * 3, none⟩ := by unfold Addr.add; split <;> simp_all
    refine ⟨h1, b, o + k * 3, by simp [e], ?_, ?_, ?_⟩
    · rw [← h2]; congr 2; omega
    · rw [← h3]; congr 2; omega
    · rw [← h4]; congr 2; omega⟩

set_option maxHeartbeats 1000000 in
theorem ahead16_any (t u : TimT) (w : World) : Calls Try.prog 60 #[timV t, timV u] w (Gives w (.bool (decide (tLt t u)))) := by
  have hl := fun W => less5_any t.1.1 t.1.2 u.1.1 u.1.2 W
  obtain ⟨lv, hlv⟩ : ∃ lv, lv = decide (idLt t.1 u.1) := ⟨_, rfl⟩
  have hl2 : ∀ W, Calls Try.prog 93 #[.agg #[.int .i64 t.1.1, .int .i64 t.1.2], .agg #[.int .i64 u.1.1, .int .i64 u.1.2]] W (Gives W (.bool lv)) := fun W => by rw [hlv]; exact hl W
  obtain ⟨⟨a1, a2⟩, a3⟩ := t
  obtain ⟨⟨b1, b2⟩, b3⟩ := u
  simp only at *
  have hR : ∀ R, R = decide (tLt ((a1, a2), a3) ((b1, b2), b3)) ↔ R = decide (a3 < b3 ∨ a3 = b3 ∧ lv = true) := fun R => by
    rw [hlv]; simp only [tLt, decide_eq_true_eq]
  obtain ⟨R, hR0⟩ : ∃ R, R = decide (tLt ((a1, a2), a3) ((b1, b2), b3)) := ⟨_, rfl⟩
  rw [← hR0]
  have hR1 := (hR R).1 hR0
  clear hl hlv hR hR0
  by_cases h1 : a3 < b3
  · obtain rfl : R = true := by rw [hR1]; simp [h1]
    clear hR1
    go_enter Try.func60, Try.ntmps60
    go_wp2_with fail
    go_ret
    exact ⟨rfl, by ((repeat' first | with_reducible exact Below.refl _ _ | with_reducible assumption | with_reducible refine Below.alloc ?_ ?_ _ | with_reducible refine Below.setCell ?_ ?_ _ | with_reducible apply Below.drew | with_reducible apply below_drewN | with_reducible refine below_call ?_ (by with_reducible assumption) ?_) <;> (first | omega | (simp; done) | (simp; omega) | (simp at *; omega)))⟩
  · by_cases h2 : a3 = b3
    · subst h2
      obtain rfl : R = lv := by rw [hR1]; cases lv <;> simp
      clear hR1 h1
      go_enter Try.func60, Try.ntmps60
      go_wp2_with (go_at_call 93; (with_reducible refine (hl2 _).mono ?_); rintro e w1 ⟨rfl, hb1⟩; have hz1 := hb1.size; (try simp at hz1))
      go_ret
      exact ⟨by simp, by ((repeat' first | with_reducible exact Below.refl _ _ | with_reducible assumption | with_reducible refine Below.alloc ?_ ?_ _ | with_reducible refine Below.setCell ?_ ?_ _ | with_reducible apply Below.drew | with_reducible apply below_drewN | with_reducible refine below_call ?_ (by with_reducible assumption) ?_) <;> (first | omega | (simp; done) | (simp; omega) | (simp at *; omega)))⟩
    · obtain rfl : R = false := by rw [hR1]; simp [h1, h2]
      have h2' : (a3 == b3) = false := by simp [h2]
      clear hR1
      go_enter Try.func60, Try.ntmps60
      go_wp2_with fail
      go_ret
      exact ⟨rfl, by ((repeat' first | with_reducible exact Below.refl _ _ | with_reducible assumption | with_reducible refine Below.alloc ?_ ?_ _ | with_reducible refine Below.setCell ?_ ?_ _ | with_reducible apply Below.drew | with_reducible apply below_drewN | with_reducible refine below_call ?_ (by with_reducible assumption) ?_) <;> (first | omega | (simp; done) | (simp; omega) | (simp at *; omega)))⟩

set_option maxHeartbeats 2000000 in
theorem find16_any (A : Option Addr) (m c : Nat) (x : List TimT) (i : IdP) (w : World) (h : TimsAt w A m x) : Calls Try.prog 22 #[.slice A m c, .agg #[.int .i64 i.1, .int .i64 i.2]] w (Gives w (.int .i64 (findN x i))) := by
  obtain ⟨i1, i2⟩ := i
  generalize hR : findN x (i1, i2) = R
  have HR := Lib.hid hR
  have H := Lib.hid h
  have Hm := Lib.hid h.1
  have hc := h.2.1
  have hmm : m ≤ 9223372036854775807 := by unfold maxLen at hc; omega
  clear hR h hc
  go_enter Try.func22, Try.ntmps22
  go_wp2_with fail
  go_loopw [5] (fun s5 wr => ∃ k : Nat, k ≤ m ∧ s5 = .int .i64 k ∧ Below w.heap.size w wr ∧ Blk wr w.heap.size 34 #[.int .i64 i1, .int .i64 i2] ∧ Hid (∀ j u, j < k → x[j]? = some u → u.1 ≠ (i1, i2))) (fun s5 _ => m - (intOf s5).toNat)
  case atStart => exact ⟨0, by omega, rfl, by ((repeat' first | with_reducible exact Below.refl _ _ | with_reducible assumption | with_reducible refine Below.alloc ?_ ?_ _ | with_reducible refine Below.setCell ?_ ?_ _ | with_reducible apply Below.drew | with_reducible apply below_drewN | with_reducible refine below_call ?_ (by with_reducible assumption) ?_) <;> (first | omega | (simp; done) | (simp; omega) | (simp at *; omega))), Blk.new _ _ _, Lib.hid (fun j u hj => absurd hj (by omega))⟩
  case round =>
    obtain ⟨k, hk, rfl, hb, hB, hF⟩ := hrel
    have hzr := hb.size
    by_cases hlt : k < m
    · obtain ⟨r, n, a, b, o, e1, _, _, rfl, c0, c1, c2⟩ := (H.out.keep hb).at_ hlt
      have E1 := Lib.hid e1
      have k0 : (0 : Int) ≤ (k : Int) := by omega
      have k1 : (k : Int) < (m : Int) := by omega
      have b0 := hB.cell 0
      have b1 := hB.cell 1
      have hpre : S4 ⟨w.heap.size, 0, none⟩ ⟨w.heap.size, 1, none⟩ ⟨b, o + k * 3, none⟩ ⟨b, o + k * 3 + 1, none⟩ (.int .i64 i1) (.int .i64 i2) (.int .i64 r) (.int .i64 n) wr := ⟨b0, b1, c0, c1⟩
      clear e1 c2 b0 b1 c0 c1
      by_cases hq : (r = i1 ∧ n = i2)
      · obtain ⟨rfl, rfl⟩ := hq
        go_upto_region 4 with fail
        (refine wp_region_held_drew (S := (S4 ⟨w.heap.size, 0, none⟩ ⟨w.heap.size, 1, none⟩ ⟨b, o + k * 3, none⟩ ⟨b, o + k * 3 + 1, none⟩ (.int .i64 r) (.int .i64 n) (.int .i64 r) (.int .i64 n))) (by kernel_rfl) ?_ (fun hHeld => ?_); (· exact hpre.drew))
        (refine take_op (i := 0) (v := ?_) rfl (by kernel_rfl) (by kernel_rfl) (by kernel_rfl) (fun _ _ _ h => h) (by rfl) ?_ hHeld ?_; rotate_left; (· (intro wS hSw; (try dsimp only at hSw); go_simp; first | done | with_reducible rfl)); simp only [Act.put, List.setIfInBounds_toArray, List.set_cons_zero, List.set_cons_succ]); (refine take_op (i := 1) (v := ?_) rfl (by kernel_rfl) (by kernel_rfl) (by kernel_rfl) (fun _ _ _ h => h) (by rfl) ?_ hHeld ?_; rotate_left; (· (intro wS hSw; (try dsimp only at hSw); go_simp; first | done | with_reducible rfl)); simp only [Act.put, List.setIfInBounds_toArray, List.set_cons_zero, List.set_cons_succ]); (refine take_op (i := 2) (v := ?_) rfl (by kernel_rfl) (by kernel_rfl) (by kernel_rfl) (fun _ _ _ h => h) (by rfl) ?_ hHeld ?_; rotate_left; (· (intro wS hSw; (try dsimp only at hSw); go_simp; first | done | with_reducible rfl)); simp only [Act.put, List.setIfInBounds_toArray, List.set_cons_zero, List.set_cons_succ]); (refine take_op (i := 3) (v := ?_) rfl (by kernel_rfl) (by kernel_rfl) (by kernel_rfl) (fun _ _ _ h => h) (by rfl) ?_ hHeld ?_; rotate_left; (· (intro wS hSw; (try dsimp only at hSw); go_simp; first | done | with_reducible rfl)); simp only [Act.put, List.setIfInBounds_toArray, List.set_cons_zero, List.set_cons_succ]); (refine take_op (i := 4) (v := ?_) rfl (by kernel_rfl) (by kernel_rfl) (by kernel_rfl) (fun _ _ _ h => h) (by rfl) ?_ hHeld ?_; rotate_left; (· (intro wS hSw; (try dsimp only at hSw); go_simp; first | done | with_reducible rfl)); simp only [Act.put, List.setIfInBounds_toArray, List.set_cons_zero, List.set_cons_succ]); (refine take_op (i := 5) (v := ?_) rfl (by kernel_rfl) (by kernel_rfl) (by kernel_rfl) (fun _ _ _ h => h) (by rfl) ?_ hHeld ?_; rotate_left; (· (intro wS hSw; (try dsimp only at hSw); go_simp; first | done | with_reducible rfl)); simp only [Act.put, List.setIfInBounds_toArray, List.set_cons_zero, List.set_cons_succ]); (refine take_op (i := 6) (v := ?_) rfl (by kernel_rfl) (by kernel_rfl) (by kernel_rfl) (fun _ _ _ h => h) (by rfl) ?_ hHeld ?_; rotate_left; (· (intro wS hSw; (try dsimp only at hSw); go_simp; first | done | with_reducible rfl)); simp only [Act.put, List.setIfInBounds_toArray, List.set_cons_zero, List.set_cons_succ])
        (refine wpAnyH_done (by kernel_rfl) ?_ _)
        have hbd := hb.drew
        clear hpre hHeld
        generalize wr.drew = wd at hbd ⊢
        have hfin : R = (k : Nat) := by rw [← HR.out]; exact findN_hit E1.out rfl hF.out
        subst hfin
        go_wp2_with fail
        go_ret
        exact ⟨rfl, hbd⟩
      · have hneq : (r == i1 && n == i2) = false := by simpa using hq
        have F2 : Hid (∀ j u, j < k + 1 → x[j]? = some u → u.1 ≠ (i1, i2)) := Lib.hid (fun j u hj hu => by
          rcases Nat.lt_or_ge j k with h' | h'
          · exact hF.out j u h' hu
          · have : j = k := by omega
            subst this
            rw [E1.out] at hu
            injection hu with hu
            subst hu
            intro e
            exact hq ⟨congrArg Prod.fst e, congrArg Prod.snd e⟩)
        go_upto_region 4 with fail
        (refine wp_region_held_drew (S := (S4 ⟨w.heap.size, 0, none⟩ ⟨w.heap.size, 1, none⟩ ⟨b, o + k * 3, none⟩ ⟨b, o + k * 3 + 1, none⟩ (.int .i64 i1) (.int .i64 i2) (.int .i64 r) (.int .i64 n))) (by kernel_rfl) ?_ (fun hHeld => ?_); (· exact hpre.drew))
        (refine take_op (i := 0) (v := ?_) rfl (by kernel_rfl) (by kernel_rfl) (by kernel_rfl) (fun _ _ _ h => h) (by rfl) ?_ hHeld ?_; rotate_left; (· (intro wS hSw; (try dsimp only at hSw); go_simp; first | done | with_reducible rfl)); simp only [Act.put, List.setIfInBounds_toArray, List.set_cons_zero, List.set_cons_succ]); (refine take_op (i := 1) (v := ?_) rfl (by kernel_rfl) (by kernel_rfl) (by kernel_rfl) (fun _ _ _ h => h) (by rfl) ?_ hHeld ?_; rotate_left; (· (intro wS hSw; (try dsimp only at hSw); go_simp; first | done | with_reducible rfl)); simp only [Act.put, List.setIfInBounds_toArray, List.set_cons_zero, List.set_cons_succ]); (refine take_op (i := 2) (v := ?_) rfl (by kernel_rfl) (by kernel_rfl) (by kernel_rfl) (fun _ _ _ h => h) (by rfl) ?_ hHeld ?_; rotate_left; (· (intro wS hSw; (try dsimp only at hSw); go_simp; first | done | with_reducible rfl)); simp only [Act.put, List.setIfInBounds_toArray, List.set_cons_zero, List.set_cons_succ]); (refine take_op (i := 3) (v := ?_) rfl (by kernel_rfl) (by kernel_rfl) (by kernel_rfl) (fun _ _ _ h => h) (by rfl) ?_ hHeld ?_; rotate_left; (· (intro wS hSw; (try dsimp only at hSw); go_simp; first | done | with_reducible rfl)); simp only [Act.put, List.setIfInBounds_toArray, List.set_cons_zero, List.set_cons_succ]); (refine take_op (i := 4) (v := ?_) rfl (by kernel_rfl) (by kernel_rfl) (by kernel_rfl) (fun _ _ _ h => h) (by rfl) ?_ hHeld ?_; rotate_left; (· (intro wS hSw; (try dsimp only at hSw); go_simp; first | done | with_reducible rfl)); simp only [Act.put, List.setIfInBounds_toArray, List.set_cons_zero, List.set_cons_succ]); (refine take_op (i := 5) (v := ?_) rfl (by kernel_rfl) (by kernel_rfl) (by kernel_rfl) (fun _ _ _ h => h) (by rfl) ?_ hHeld ?_; rotate_left; (· (intro wS hSw; (try dsimp only at hSw); go_simp; first | done | with_reducible rfl)); simp only [Act.put, List.setIfInBounds_toArray, List.set_cons_zero, List.set_cons_succ])
        (refine take_op (i := 6) (v := .bool false) rfl (by kernel_rfl) (by kernel_rfl) (by kernel_rfl) (fun _ _ _ h => h) (by rfl) ?_ hHeld ?_; (· (intro wS hSw; clear hSw; go_simp)); simp only [Act.put, List.setIfInBounds_toArray, List.set_cons_zero, List.set_cons_succ])
        (refine wpAnyH_done (by kernel_rfl) ?_ _)
        have hbd := hb.drew
        have hBd := Blk.keep hB (Below.refl _ _).drew
        clear hpre hHeld hneq hq
        generalize wr.drew = wd at hbd hBd ⊢
        go_wp2_with fail
        go_roundw
        case rel => exact ⟨k + 1, by omega, by go_num, hbd, hBd, F2⟩
        case measure => simp [intOf]; omega
    · have nk : ¬ (k : Int) < (m : Int) := by omega
      have hfin : R = -1 := by
        rw [← HR.out]
        refine findN_miss fun t ht => ?_
        obtain ⟨j, hj⟩ := List.getElem?_of_mem ht
        have hjl := (List.getElem?_eq_some_iff.1 hj).1
        exact hF.out j t (by have := Hm.out; omega) hj
      subst hfin
      go_wp2_with fail
      go_ret
      exact ⟨rfl, hb⟩
set_option maxHeartbeats 2000000 in
theorem due16_any (A : Option Addr) (m c : Nat) (x : List TimT) (now : Int) (w : World) (h : TimsAt w A m x) : Calls Try.prog 27 #[.slice A m c, .int .i64 now] w (Gives w (.int .i64 (dueN x now : Nat))) := by
  generalize hR : dueN x now = R
  have HR := Lib.hid hR
  have H := Lib.hid h
  have Hm := Lib.hid h.1
  have hc := h.2.1
  have hmm : m ≤ 9223372036854775807 := by unfold maxLen at hc; omega
  clear hR h hc
  go_enter Try.func27, Try.ntmps27
  go_wp2_with fail
  go_loopw [5] (fun s5 wr => ∃ k : Nat, k ≤ m ∧ s5 = .int .i64 k ∧ Below w.heap.size w wr ∧ Hid (k ≤ dueN x now)) (fun s5 _ => m - (intOf s5).toNat)
  case atStart => exact ⟨0, by omega, rfl, by ((repeat' first | with_reducible exact Below.refl _ _ | with_reducible assumption | with_reducible refine Below.alloc ?_ ?_ _ | with_reducible refine Below.setCell ?_ ?_ _ | with_reducible apply Below.drew | with_reducible apply below_drewN | with_reducible refine below_call ?_ (by with_reducible assumption) ?_) <;> (first | omega | (simp; done) | (simp; omega) | (simp at *; omega))), Lib.hid (Nat.zero_le _)⟩
  case round =>
    obtain ⟨k, hk, rfl, hb, hF⟩ := hrel
    have hzr := hb.size
    by_cases hlt : k < m
    · obtain ⟨r, n, a, b, o, e1, _, _, rfl, c0, c1, c2⟩ := (H.out.keep hb).at_ hlt
      have k0 : (0 : Int) ≤ (k : Int) := by omega
      have k1 : (k : Int) < (m : Int) := by omega
      by_cases hq : a ≤ now
      · have F2 : Hid (k + 1 ≤ dueN x now) := Lib.hid (by
          rcases dueN_step hF.out with ⟨_, _, _, h⟩ | ⟨_, h⟩
          · exact h
          · exact absurd hq (h _ e1))
        clear e1
        go_wp2_with fail
        go_roundw
        case rel => exact ⟨k + 1, by omega, by go_num, by first | exact hb | exact hb.drew, F2⟩
        case measure => simp [intOf]; omega
      · have hfin : R = k := by
          rw [← HR.out]
          rcases dueN_step hF.out with ⟨t, h1, h2, _⟩ | ⟨h, _⟩
          · rw [e1] at h1
            injection h1 with h1
            subst h1
            exact absurd h2 hq
          · exact h.symm
        subst hfin
        clear e1
        go_wp2_with fail
        go_ret
        exact ⟨rfl, by first | exact hb | exact hb.drew⟩
    · have nk : ¬ (k : Int) < (m : Int) := by omega
      have hfin : R = k := by
        have h1 := dueN_le x now
        have h2 := hF.out
        have h3 := Hm.out
        rw [← HR.out]
        omega
      subst hfin
      go_wp2_with fail
      go_ret
      exact ⟨rfl, by first | exact hb | exact hb.drew⟩
end Go.Proofs.Ytpdlhcfepafjeaa
