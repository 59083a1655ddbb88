/- The library's sort at the ids of a wheel, by their ticks: its comparison is a closure that looks them up. -/
import Derived.Test.YtpdlhcfepafjeaaWheel
import Derived.Test.YtpdlhcfepafjeaaIdRow
import Derived.Test.YtpdlhcfepafjeaaIdCheck
import Derived.Test.YtpdlhcfepafjeaaSortL
import Derived.WalkKit
import Derived.WalkSpells
import Derived.WalkLawsBesides
import Derived.Deep.RegionHeld3
import Derived.Deep.DrawnRows
import Derived.Deep.DeepCutAuto
import Derived.Deep.DeepFit
import Derived.Lib.Hide
import Derived.BigQuiet
import Derived.Deep.QuietTactic
import Derived.Deep.RegionHeld3
namespace Go.Proofs.Ytpdlhcfepafjeaa
open Go.RowKit
set_option linter.unusedVariables false
set_option linter.unusedSimpArgs false
set_option maxRecDepth 20000
attribute [local go_sem ↓] Go.wp_at_zero Go.wp_at_succ
attribute [local go_sem] World.cell?_alloc_some frozen_alloc_some
open Go.Sort Go.Lib Go.Shelf

/-- How a wheel compares two ids. -/
def tickCmp (x : List TimT) (a b : IdP) : Int := if cmpI (atV x a) (atV x b) = 0 then (if idLt a b then -1 else 1) else cmpI (atV x a) (atV x b)
theorem tickCmp_lt {x : List TimT} {a b : IdP} : tickCmp x a b < 0 ↔ tLt (a, atV x a) (b, atV x b) := by
  unfold tickCmp cmpI tLt
  simp only
  generalize atV x a = p
  generalize atV x b = q
  by_cases h1 : p < q
  · simp [h1]
  · by_cases h2 : q < p
    · simp [h1, h2]; omega
    · have : p = q := by omega
      subst this
      by_cases h3 : idLt a b <;> simp [h3]
abbrev SD (B : Nat) (cB : Array Value) (g : Nat) (cg : Array Value) (h1 : Nat) (c1 : Array Value) (h2 : Nat) (c2 : Array Value) (b : Nat) (a k : IdP) (va vk : Int) (wx : World) : Prop :=
  ((∀ i, wx.cell? ⟨B, i, none⟩ = cB[i]?) ∧ (∀ i, wx.cell? ⟨g, i, none⟩ = cg[i]?) ∧ (∀ i, wx.cell? ⟨h1, i, none⟩ = c1[i]?) ∧ (∀ i, wx.cell? ⟨h2, i, none⟩ = c2[i]?)) ∧
  (Instr.lookup 96 (.map (some b)) (.agg #[.int .i64 a.1, .int .i64 a.2]) false).run Try.prog wx = .ok (.int .i64 va) wx ∧ (Instr.lookup 96 (.map (some b)) (.agg #[.int .i64 k.1, .int .i64 k.2]) false).run Try.prog wx = .ok (.int .i64 vk) wx
set_option maxHeartbeats 4000000 in
theorem due1_any (B g b n : Nat) (x : List TimT) (a k : IdP) (w : World) (h : WhAt w g b n x) (hB : Blk w B 30 #[.pointer (some ⟨g, 0, none⟩)]) (ha : wfI a) (hk : wfI k) :
    Calls Try.prog 57 #[.agg #[.int .i64 a.1, .int .i64 a.2], .agg #[.int .i64 k.1, .int .i64 k.2], .pointer (some ⟨B, 0, none⟩)] w (fun e w' => e = .returned (.int .i64 (tickCmp x a k)) ∧ Lays w w') := by
  obtain ⟨a1, a2⟩ := a
  obtain ⟨k1, k2⟩ := k
  have hlk : ∀ W, MapAt W b n x → (Instr.lookup 96 (.map (some b)) (.agg #[.int .i64 a1, .int .i64 a2]) false).run Try.prog W = .ok (.int .i64 (atV x (a1, a2))) W ∧ (Instr.lookup 96 (.map (some b)) (.agg #[.int .i64 k1, .int .i64 k2]) false).run Try.prog W = .ok (.int .i64 (atV x (k1, k2))) W := fun W hm => ⟨hm.look ha, hm.look hk⟩
  unfold tickCmp
  generalize atV x (a1, a2) = va at hlk ⊢
  generalize atV x (k1, k2) = vk at hlk ⊢
  have hcm := fun W => compare_any va vk W
  generalize cmpI va vk = c at hcm ⊢
  have hle := fun W => idless_lays a1 a2 k1 k2 W
  obtain ⟨lv, hlv⟩ : ∃ lv, lv = decide (idLt (a1, a2) (k1, k2)) := ⟨_, rfl⟩
  rw [← hlv] at hle
  have hR : (if idLt (a1, a2) (k1, k2) then (-1 : Int) else 1) = if lv = true then -1 else 1 := by rw [hlv]; simp
  simp only at hR ⊢
  rw [hR]
  clear hR hlv
  obtain ⟨W2, hW2⟩ : ∃ W2, W2 = (w.alloc (.cells #[.int .i64 a1, .int .i64 a2] 34)).alloc (.cells #[.int .i64 k1, .int .i64 k2] 34) := ⟨_, rfl⟩
  have hb2 : Below w.heap.size w W2 := by rw [hW2]; ((repeat' first | with_reducible exact Below.refl _ _ | with_reducible assumption | with_reducible refine Below.alloc ?_ ?_ _ | with_reducible refine Below.setCell ?_ ?_ _ | with_reducible apply Below.drew | with_reducible apply below_drewN | with_reducible refine below_call ?_ (by with_reducible assumption) ?_) <;> (first | omega | (simp; done) | (simp; omega) | (simp at *; omega)))
  have hL2 : Lays w W2.drew := by rw [hW2]; exact ⟨by ((repeat' first | with_reducible exact Below.refl _ _ | with_reducible assumption | with_reducible refine Below.alloc ?_ ?_ _ | with_reducible refine Below.setCell ?_ ?_ _ | with_reducible apply Below.drew | with_reducible apply below_drewN | with_reducible refine below_call ?_ (by with_reducible assumption) ?_) <;> (first | omega | (simp; done) | (simp; omega) | (simp at *; omega))), by simp only [drawn_alloc, drawn_drew]; omega⟩
  have I1 : Blk W2 w.heap.size 34 #[.int .i64 a1, .int .i64 a2] := by rw [hW2]; exact (Blk.new w _ _).alloc _
  have I2 : Blk W2 (w.heap.size + 1) 34 #[.int .i64 k1, .int .i64 k2] := by rw [hW2]; exact Blk.newAt (by simp)
  have H := (h.keep hb2).keep (Below.refl _ _).drew
  have B2 := (hB.keep hb2).keep (Below.refl _ _).drew
  replace I1 := Blk.keep I1 (Below.refl _ _).drew
  replace I2 := Blk.keep I2 (Below.refl _ _).drew
  have HW2 := Lib.hid hW2
  have Hlk := Lib.hid (hlk _ H.mp)
  clear h hB hlk ha hk hb2 hW2
  by_cases hc : c = 0
  · subst hc
    rw [if_pos rfl]
    go_enter Try.func57, Try.ntmps57
    go_upto_region 1 with fail
    rw [← HW2.out]
    (refine wp_region_held_drew (S := (SD B #[.pointer (some ⟨g, 0, none⟩)] g #[.map (some b)] w.heap.size #[.int .i64 a1, .int .i64 a2] (w.heap.size + 1) #[.int .i64 k1, .int .i64 k2] b (a1, a2) (k1, k2) va vk)) (by kernel_rfl) ?_ (fun hHeld => ?_); (· exact ⟨⟨B2.cell, H.pb.cell, I1.cell, I2.cell⟩, Hlk.out⟩))
    (refine take_op (i := 0) (v := ?_) rfl (by kernel_rfl) (by kernel_rfl) (by kernel_rfl) (fun _ _ _ h => h) (by rfl) ?_ hHeld ?_; rotate_left; (· (intro wS hSw; (try dsimp only at hSw); go_simp; first | done | with_reducible rfl)); simp only [Act.put, List.setIfInBounds_toArray, List.set_cons_zero, List.set_cons_succ]); (refine take_op (i := 1) (v := ?_) rfl (by kernel_rfl) (by kernel_rfl) (by kernel_rfl) (fun _ _ _ h => h) (by rfl) ?_ hHeld ?_; rotate_left; (· (intro wS hSw; (try dsimp only at hSw); go_simp; first | done | with_reducible rfl)); simp only [Act.put, List.setIfInBounds_toArray, List.set_cons_zero, List.set_cons_succ]); (refine take_op (i := 2) (v := ?_) rfl (by kernel_rfl) (by kernel_rfl) (by kernel_rfl) (fun _ _ _ h => h) (by rfl) ?_ hHeld ?_; rotate_left; (· (intro wS hSw; (try dsimp only at hSw); go_simp; first | done | with_reducible rfl)); simp only [Act.put, List.setIfInBounds_toArray, List.set_cons_zero, List.set_cons_succ]); (refine take_op (i := 3) (v := ?_) rfl (by kernel_rfl) (by kernel_rfl) (by kernel_rfl) (fun _ _ _ h => h) (by rfl) ?_ hHeld ?_; rotate_left; (· (intro wS hSw; (try dsimp only at hSw); go_simp; first | done | with_reducible rfl)); simp only [Act.put, List.setIfInBounds_toArray, List.set_cons_zero, List.set_cons_succ]); (refine take_op (i := 4) (v := ?_) rfl (by kernel_rfl) (by kernel_rfl) (by kernel_rfl) (fun _ _ _ h => h) (by rfl) ?_ hHeld ?_; rotate_left; (· (intro wS hSw; (try dsimp only at hSw); go_simp; first | done | with_reducible rfl)); simp only [Act.put, List.setIfInBounds_toArray, List.set_cons_zero, List.set_cons_succ]); (refine take_op (i := 5) (v := ?_) rfl (by kernel_rfl) (by kernel_rfl) (by kernel_rfl) (fun _ _ _ h => h) (by rfl) ?_ hHeld ?_; rotate_left; (· (intro wS hSw; (try dsimp only at hSw); go_simp; first | done | with_reducible rfl)); simp only [Act.put, List.setIfInBounds_toArray, List.set_cons_zero, List.set_cons_succ]); (refine take_op (i := 6) (v := ?_) rfl (by kernel_rfl) (by kernel_rfl) (by kernel_rfl) (fun _ _ _ h => h) (by rfl) ?_ hHeld ?_; rotate_left; (· (intro wS hSw; (try dsimp only at hSw); go_simp; first | done | with_reducible rfl)); simp only [Act.put, List.setIfInBounds_toArray, List.set_cons_zero, List.set_cons_succ]); (refine take_op (i := 7) (v := ?_) rfl (by kernel_rfl) (by kernel_rfl) (by kernel_rfl) (fun _ _ _ h => h) (by rfl) ?_ hHeld ?_; rotate_left; (· (intro wS hSw; (try dsimp only at hSw); go_simp; first | done | with_reducible rfl)); simp only [Act.put, List.setIfInBounds_toArray, List.set_cons_zero, List.set_cons_succ]); (refine take_op (i := 8) (v := ?_) rfl (by kernel_rfl) (by kernel_rfl) (by kernel_rfl) (fun _ _ _ h => h) (by rfl) ?_ hHeld ?_; rotate_left; (· (intro wS hSw; (try dsimp only at hSw); go_simp; first | done | with_reducible rfl)); simp only [Act.put, List.setIfInBounds_toArray, List.set_cons_zero, List.set_cons_succ]); (refine take_op (i := 9) (v := ?_) rfl (by kernel_rfl) (by kernel_rfl) (by kernel_rfl) (fun _ _ _ h => h) (by rfl) ?_ hHeld ?_; rotate_left; (· (intro wS hSw; (try dsimp only at hSw); go_simp; first | done | with_reducible rfl)); simp only [Act.put, List.setIfInBounds_toArray, List.set_cons_zero, List.set_cons_succ]); (refine take_op (i := 10) (v := ?_) rfl (by kernel_rfl) (by kernel_rfl) (by kernel_rfl) (fun _ _ _ h => h) (by rfl) ?_ hHeld ?_; rotate_left; (· (intro wS hSw; (try dsimp only at hSw); go_simp; first | done | with_reducible rfl)); simp only [Act.put, List.setIfInBounds_toArray, List.set_cons_zero, List.set_cons_succ]); (refine take_op (i := 11) (v := ?_) rfl (by kernel_rfl) (by kernel_rfl) (by kernel_rfl) (fun _ _ _ h => h) (by rfl) ?_ hHeld ?_; rotate_left; (· (intro wS hSw; (try dsimp only at hSw); go_simp; first | done | with_reducible rfl)); simp only [Act.put, List.setIfInBounds_toArray, List.set_cons_zero, List.set_cons_succ])
    (refine call_op (i := 12) rfl (by kernel_rfl) (by rfl) (fun K hK => ?_); go_simp; (go_at_call 58; (with_reducible refine (hcm _).mono ?_); rintro e w1 ⟨rfl, rfl⟩); refine hK.out _ _ ⟨⟨B2.cell, H.pb.cell, I1.cell, I2.cell⟩, Hlk.out⟩ (fun hHeld2 => ?_); clear hK K hHeld; have hHeld := hHeld2; clear hHeld2; (try simp only [Act.put, List.setIfInBounds_toArray, List.set_cons_zero, List.set_cons_succ]))
    (refine take_op (i := 13) (v := ?_) rfl (by kernel_rfl) (by kernel_rfl) (by kernel_rfl) (fun _ _ _ h => h) (by rfl) ?_ hHeld ?_; rotate_left; (· (intro wS hSw; (try dsimp only at hSw); go_simp; first | done | with_reducible rfl)); simp only [Act.put, List.setIfInBounds_toArray, List.set_cons_zero, List.set_cons_succ])
    (refine wpAnyH_done (by kernel_rfl) ?_ _)
    have i1 := I1.cell
    have i2 := I2.cell
    clear hHeld H B2 I1 I2 Hlk HW2 hcm
    generalize W2.drew = wd at i1 i2 hL2 ⊢
    cases lv
    · go_wp2_with (go_at_call 59; (with_reducible refine (hle _).mono ?_); rintro e w1 ⟨rfl, hL⟩)
      go_ret
      exact ⟨rfl, hL2.trans hL⟩
    · go_wp2_with (go_at_call 59; (with_reducible refine (hle _).mono ?_); rintro e w1 ⟨rfl, hL⟩)
      go_ret
      exact ⟨rfl, hL2.trans hL⟩
  · rw [if_neg hc]
    have hc' : (c != 0) = true := by simp [hc]
    clear hc
    go_enter Try.func57, Try.ntmps57
    go_upto_region 1 with fail
    rw [← HW2.out]
    (refine wp_region_held_drew (S := (SD B #[.pointer (some ⟨g, 0, none⟩)] g #[.map (some b)] w.heap.size #[.int .i64 a1, .int .i64 a2] (w.heap.size + 1) #[.int .i64 k1, .int .i64 k2] b (a1, a2) (k1, k2) va vk)) (by kernel_rfl) ?_ (fun hHeld => ?_); (· exact ⟨⟨B2.cell, H.pb.cell, I1.cell, I2.cell⟩, Hlk.out⟩))
    (refine take_op (i := 0) (v := ?_) rfl (by kernel_rfl) (by kernel_rfl) (by kernel_rfl) (fun _ _ _ h => h) (by rfl) ?_ hHeld ?_; rotate_left; (· (intro wS hSw; (try dsimp only at hSw); go_simp; first | done | with_reducible rfl)); simp only [Act.put, List.setIfInBounds_toArray, List.set_cons_zero, List.set_cons_succ]); (refine take_op (i := 1) (v := ?_) rfl (by kernel_rfl) (by kernel_rfl) (by kernel_rfl) (fun _ _ _ h => h) (by rfl) ?_ hHeld ?_; rotate_left; (· (intro wS hSw; (try dsimp only at hSw); go_simp; first | done | with_reducible rfl)); simp only [Act.put, List.setIfInBounds_toArray, List.set_cons_zero, List.set_cons_succ]); (refine take_op (i := 2) (v := ?_) rfl (by kernel_rfl) (by kernel_rfl) (by kernel_rfl) (fun _ _ _ h => h) (by rfl) ?_ hHeld ?_; rotate_left; (· (intro wS hSw; (try dsimp only at hSw); go_simp; first | done | with_reducible rfl)); simp only [Act.put, List.setIfInBounds_toArray, List.set_cons_zero, List.set_cons_succ]); (refine take_op (i := 3) (v := ?_) rfl (by kernel_rfl) (by kernel_rfl) (by kernel_rfl) (fun _ _ _ h => h) (by rfl) ?_ hHeld ?_; rotate_left; (· (intro wS hSw; (try dsimp only at hSw); go_simp; first | done | with_reducible rfl)); simp only [Act.put, List.setIfInBounds_toArray, List.set_cons_zero, List.set_cons_succ]); (refine take_op (i := 4) (v := ?_) rfl (by kernel_rfl) (by kernel_rfl) (by kernel_rfl) (fun _ _ _ h => h) (by rfl) ?_ hHeld ?_; rotate_left; (· (intro wS hSw; (try dsimp only at hSw); go_simp; first | done | with_reducible rfl)); simp only [Act.put, List.setIfInBounds_toArray, List.set_cons_zero, List.set_cons_succ]); (refine take_op (i := 5) (v := ?_) rfl (by kernel_rfl) (by kernel_rfl) (by kernel_rfl) (fun _ _ _ h => h) (by rfl) ?_ hHeld ?_; rotate_left; (· (intro wS hSw; (try dsimp only at hSw); go_simp; first | done | with_reducible rfl)); simp only [Act.put, List.setIfInBounds_toArray, List.set_cons_zero, List.set_cons_succ]); (refine take_op (i := 6) (v := ?_) rfl (by kernel_rfl) (by kernel_rfl) (by kernel_rfl) (fun _ _ _ h => h) (by rfl) ?_ hHeld ?_; rotate_left; (· (intro wS hSw; (try dsimp only at hSw); go_simp; first | done | with_reducible rfl)); simp only [Act.put, List.setIfInBounds_toArray, List.set_cons_zero, List.set_cons_succ]); (refine take_op (i := 7) (v := ?_) rfl (by kernel_rfl) (by kernel_rfl) (by kernel_rfl) (fun _ _ _ h => h) (by rfl) ?_ hHeld ?_; rotate_left; (· (intro wS hSw; (try dsimp only at hSw); go_simp; first | done | with_reducible rfl)); simp only [Act.put, List.setIfInBounds_toArray, List.set_cons_zero, List.set_cons_succ]); (refine take_op (i := 8) (v := ?_) rfl (by kernel_rfl) (by kernel_rfl) (by kernel_rfl) (fun _ _ _ h => h) (by rfl) ?_ hHeld ?_; rotate_left; (· (intro wS hSw; (try dsimp only at hSw); go_simp; first | done | with_reducible rfl)); simp only [Act.put, List.setIfInBounds_toArray, List.set_cons_zero, List.set_cons_succ]); (refine take_op (i := 9) (v := ?_) rfl (by kernel_rfl) (by kernel_rfl) (by kernel_rfl) (fun _ _ _ h => h) (by rfl) ?_ hHeld ?_; rotate_left; (· (intro wS hSw; (try dsimp only at hSw); go_simp; first | done | with_reducible rfl)); simp only [Act.put, List.setIfInBounds_toArray, List.set_cons_zero, List.set_cons_succ]); (refine take_op (i := 10) (v := ?_) rfl (by kernel_rfl) (by kernel_rfl) (by kernel_rfl) (fun _ _ _ h => h) (by rfl) ?_ hHeld ?_; rotate_left; (· (intro wS hSw; (try dsimp only at hSw); go_simp; first | done | with_reducible rfl)); simp only [Act.put, List.setIfInBounds_toArray, List.set_cons_zero, List.set_cons_succ]); (refine take_op (i := 11) (v := ?_) rfl (by kernel_rfl) (by kernel_rfl) (by kernel_rfl) (fun _ _ _ h => h) (by rfl) ?_ hHeld ?_; rotate_left; (· (intro wS hSw; (try dsimp only at hSw); go_simp; first | done | with_reducible rfl)); simp only [Act.put, List.setIfInBounds_toArray, List.set_cons_zero, List.set_cons_succ])
    (refine call_op (i := 12) rfl (by kernel_rfl) (by rfl) (fun K hK => ?_); go_simp; (go_at_call 58; (with_reducible refine (hcm _).mono ?_); rintro e w1 ⟨rfl, rfl⟩); refine hK.out _ _ ⟨⟨B2.cell, H.pb.cell, I1.cell, I2.cell⟩, Hlk.out⟩ (fun hHeld2 => ?_); clear hK K hHeld; have hHeld := hHeld2; clear hHeld2; (try simp only [Act.put, List.setIfInBounds_toArray, List.set_cons_zero, List.set_cons_succ]))
    (refine take_op (i := 13) (v := ?_) rfl (by kernel_rfl) (by kernel_rfl) (by kernel_rfl) (fun _ _ _ h => h) (by rfl) ?_ hHeld ?_; rotate_left; (· (intro wS hSw; (try dsimp only at hSw); go_simp; first | done | with_reducible rfl)); simp only [Act.put, List.setIfInBounds_toArray, List.set_cons_zero, List.set_cons_succ])
    (refine wpAnyH_done (by kernel_rfl) ?_ _)
    clear hHeld H B2 I1 I2 Hlk HW2 hcm
    generalize W2.drew = wd at hL2 ⊢
    go_wp2_with fail
    go_ret
    exact ⟨rfl, hL2⟩

/-- Ids that are right as numbers. -/
abbrev IdW := { i : IdP // wfI i }
instance : Inhabited IdW := ⟨⟨(0, 0), rfl, rfl⟩⟩
def encW (i : IdW) : List Value := encId i.1
def cfW (x : List TimT) (a b : IdW) : Int := tickCmp x a.1 b.1
theorem ltOf_cfW (x : List TimT) (a b : IdW) : ltOf (cfW x) a b = decide (tLt (a.1, atV x a.1) (b.1, atV x b.1)) := by
  unfold ltOf cfW; rw [Bool.eq_iff_iff, decide_eq_true_iff, decide_eq_true_iff]; exact tickCmp_lt
theorem swo_cfW (x : List TimT) : SWO (ltOf (cfW x)) where
  irrefl a := by rw [ltOf_cfW]; exact decide_eq_false (tLt_irrefl _)
  trans a b c h1 h2 := by rw [ltOf_cfW] at *; exact decide_eq_true (tLt_trans (of_decide_eq_true h1) (of_decide_eq_true h2))
  ntrans a b c h1 h2 := by
    rw [ltOf_cfW] at *
    have h1 := of_decide_eq_false h1
    have h2 := of_decide_eq_false h2
    refine decide_eq_false fun h => ?_
    unfold tLt idLt at *
    omega
theorem holdsK_of_rowW {w : World} {g : Nat} {d : Array IdW} (h : RowAt w g (d.toList.map (·.1))) : HoldsK encW 2 w g 0 d := by
  intro t ht
  rw [size_flatK] at ht
  rw [get_flatK _ _ _ _ ht]
  have hi : t / 2 < d.size := by omega
  obtain ⟨h1, h2, h3, h4⟩ := h (t / 2) d[t / 2].1 (by rw [List.getElem?_map, List.getElem?_eq_getElem (by simpa using hi)]; simp)
  have e : d[t / 2]! = d[t / 2] := getElem!_pos d (t / 2) hi
  rw [e, Nat.zero_add]
  rcases Nat.mod_two_eq_zero_or_one t with e2 | e2
  · rw [e2]
    have e3 : t = t / 2 * 2 := by omega
    constructor
    · rw [show (⟨g, t, none⟩ : Addr) = ⟨g, t / 2 * 2, none⟩ by rw [← e3]]; exact h1
    · rw [show (⟨g, t, none⟩ : Addr) = ⟨g, t / 2 * 2, none⟩ by rw [← e3]]; exact h3
  · rw [e2]
    have e3 : t = t / 2 * 2 + 1 := by omega
    constructor
    · rw [show (⟨g, t, none⟩ : Addr) = ⟨g, t / 2 * 2 + 1, none⟩ by rw [← e3]]; exact h2
    · rw [show (⟨g, t, none⟩ : Addr) = ⟨g, t / 2 * 2 + 1, none⟩ by rw [← e3]]; exact h4
theorem row_of_holdsKW {w : World} {g : Nat} {d : Array IdW} (h : HoldsK encW 2 w g 0 d) : RowAt w g (d.toList.map (·.1)) := by
  intro i x hi
  rw [List.getElem?_map] at hi
  cases hd : d.toList[i]? with
  | none => rw [hd] at hi; cases hi
  | some y =>
    rw [hd] at hi
    simp only [Option.map_some, Option.some.injEq] at hi
    subst hi
    have hi2 : i < d.size := by simpa using (List.getElem?_eq_some_iff.1 hd).1
    have e : d[i]! = y := by
      rw [getElem!_pos d i hi2]
      have := (List.getElem?_eq_some_iff.1 hd).2
      simpa using this
    obtain ⟨h1, h2⟩ := h.cell hi2 (c := 0) (by decide)
    obtain ⟨h3, h4⟩ := h.cell hi2 (c := 1) (by decide)
    rw [e] at h1 h3
    simp only [Nat.zero_add, Nat.add_zero] at h1 h2 h3 h4
    exact ⟨h1, h3, h2, h4⟩
theorem swo_total {x : List TimT} (a b : IdW) (h1 : ltOf (cfW x) a b = false) (h2 : ltOf (cfW x) b a = false) : a = b := by
  rw [ltOf_cfW] at h1 h2
  have h1 := of_decide_eq_false h1
  have h2 := of_decide_eq_false h2
  apply Subtype.ext
  rcases Decidable.em ((a.1, atV x a.1) = (b.1, atV x b.1)) with e | e
  · exact congrArg Prod.fst e
  · rcases tLt_total e with h | h
    · exact absurd h h1
    · exact absurd h h2
/-- The row sorted by the ticks. -/
theorem sortw_row (B gw bm n gr cap : Nat) (x : List TimT) (d : List IdW) (w : World) (h : WhAt w gw bm n x) (hB : Blk w B 30 #[.pointer (some ⟨gw, 0, none⟩)]) (hr : RowAt w gr (d.map (·.1))) (hg : gr < w.heap.size) (h1 : gw < gr) (h2 : bm < gr) (h3 : B < gr) (hl : d.length ≤ 1000000) :
    Calls Try.prog 56 #[.slice (some ⟨gr, 0, none⟩) d.length cap, .func (.func 57) #[] #[.pointer (some ⟨B, 0, none⟩)]] w
      fun e w' => e = .returned (.tuple #[]) ∧ RowAt w' gr ((d.mergeSort fun a b => !(ltOf (cfW x)) b a).map (·.1)) ∧ gr < w'.heap.size ∧ Below gr w w' := by
  have eg : ∀ args w, (callFunc 57 args).run Try.prog w = .ok (.enter 57 args) w := enters_of Try.func57 (by kernel_rfl) rfl
  have hbel : ∀ m (dk : Array IdW) os, Below gr w (sortWorldK encW 2 w gr 0 m dk os) := fun m dk os => by
    unfold sortWorldK putRowK
    have h1 : Below gr w (putRow id (Sort.ahead w m) gr 0 (flatK encW 2 dk)) := Lib.below_putRow (Below.refl _ _) (Nat.le_refl _)
    exact ⟨h1.os, h1.tape, h1.output, by have := h1.size; simp only [grow, Array.size_append] at *; omega, fun k hk => by
      rw [heap_grow_old _ _ (by have := h1.size; omega)]
      exact h1.block k hk⟩
  have hcmp : CmpLays Try.prog 57 #[.pointer (some ⟨B, 0, none⟩)] encW 2 (cfW x) gr 0 d.toArray.size w := fun m os dk _ a k => by
    have hb := hbel m dk os
    have H : WhAt (sortWorldK encW 2 w gr 0 m dk os) gw bm n x := by
      obtain ⟨hp, D, ⟨es, c, e1, e2⟩, e3⟩ := h
      exact ⟨hp.below hb h1, D, ⟨es, c, (hb.block bm h2).trans e1, e2⟩, e3⟩
    exact (due1_any B gw bm n x a.1 k.1 _ H (hB.below hb h3) a.2 k.2).mono fun e w' ⟨he, hL⟩ => ⟨he, hL.grow⟩
  have hH := holdsK_of_rowW (d := d.toArray) (by simpa using hr)
  have hcon := AnyQ.slices_SortFunc_total Try.sortIds 2 Try.isAgg34 Try.sizeOf34 encW (fun _ => rfl) (fun x v hv => by simp [encW, encId] at hv; rcases hv with rfl | rfl <;> rfl) (cfW x) (swo_cfW x) 57 #[.pointer (some ⟨B, 0, none⟩)] gr 0 cap d.toArray w eg hcmp hH hg (by simp; omega)
    (fun a b e1 e2 => swo_total a b e1 e2)
  rw [show d.toArray.size = d.length by simp] at hcon
  change Calls Try.prog 56 _ _ _ at hcon
  refine hcon.mono fun e w' ⟨he, m, os, hw⟩ => ?_
  have hK : HoldsK encW 2 w' gr 0 (d.mergeSort fun a b => !(ltOf (cfW x)) b a).toArray := by rw [hw]; exact holdsK_sortWorldK_c encW 2 w gr 0 d.toArray _ m os hH hg (by simp)
  have hsz : w.heap.size ≤ w'.heap.size := by rw [hw]; exact size_sortWorldK_c encW 2 w gr 0 m _ os
  exact ⟨he, by simpa using row_of_holdsKW hK, by omega, by rw [hw]; exact hbel _ _ _⟩
end Go.Proofs.Ytpdlhcfepafjeaa
