/- The document's timers: Out, Set. -/
import Derived.Test.YtpdlhcfepafjeaaTims
import Derived.WalkKit
import Derived.WalkSpells
import Derived.WalkLawsBesides
import Derived.Deep.RegionHeld3
import Derived.Deep.DrawnRows
import Derived.Deep.DeepCutAuto
import Derived.Deep.DeepFit
import Derived.Lib.Hide
import Derived.BigQuiet
import Derived.Deep.QuietTactic
import Derived.Deep.RegionHeld3
namespace Go.Proofs.Ytpdlhcfepafjeaa
open Go.RowKit
set_option linter.unusedVariables false
set_option linter.unusedSimpArgs false
set_option maxRecDepth 20000
attribute [local go_sem ↓] Go.wp_at_zero Go.wp_at_succ
attribute [local go_sem] World.cell?_alloc_some frozen_alloc_some
attribute [local go_sem ↓ high] id_neq_run id_eql_run

/-- Keeps over an append to the call's own row. -/
theorem blk_app {w' W : World} {base k : Nat} {e : TypeId} {size : Nat} {v : Value} {n : Nat} {xs : List Value} {t : TypeId} {cs : Array Value} (h : Blk W k t cs) (ho : W.ownsRow base e size v n xs) (hg : W.grownBy w' v.ownBlock) (hk : k < base) : Blk w' k t cs :=
  (hg.block _ h.lt (fun e => by have := (ho.lt _ e.symm).1; omega)).trans h
set_option maxHeartbeats 4000000 in
theorem out16_any (A : Option Addr) (m c : Nat) (x : List TimT) (i : IdP) (w : World) (h : TimsAt w A m x) (hm1 : m ≤ 1000000) : Calls Try.prog 26 #[.slice A m c, .agg #[.int .i64 i.1, .int .i64 i.2]] w
    (fun e w' => ∃ A' m' c', e = .returned (.slice A' m' c') ∧ m' ≤ c' ∧ TimsAt w' A' m' (outT x i) ∧ Below w.heap.size w w') := by
  obtain ⟨i1, i2⟩ := i
  have H := Lib.hid h
  have Hm := Lib.hid h.1
  have hwf : ∀ t ∈ outT x (i1, i2), wfI t.1 ∧ (Lit.int .i64 t.2).wf = true := fun t ht => by
    obtain ⟨j, hj⟩ := List.getElem?_of_mem (mem_outT.1 ht).1
    exact (h.2.2 j t hj).1
  have Hwf := Lib.hid hwf
  clear h hwf
  obtain ⟨i0, hi, hz0, hzz, hz2⟩ := timinfo
  go_enter Try.func26, Try.ntmps26
  go_wp2_with fail
  go_loopw [5, 6] (fun s5 s6 wr => ∃ (k n c' : Nat) (A' : Option Addr), k ≤ m ∧ s6 = .int .i64 k ∧ s5 = .slice A' n c' ∧ n ≤ k ∧ Below w.heap.size w wr ∧ Blk wr w.heap.size 34 #[.int .i64 i1, .int .i64 i2] ∧ wr.ownsRow (w.heap.size + 1) 46 3 (.slice A' n c') n (flatT (outT (x.take k) (i1, i2)))) (fun _ s6 _ => m - (intOf s6).toNat)
  case atStart => exact ⟨0, 0, 0, none, by omega, rfl, rfl, by omega, by ((repeat' first | with_reducible exact Below.refl _ _ | with_reducible assumption | with_reducible refine Below.alloc ?_ ?_ _ | with_reducible refine Below.setCell ?_ ?_ _ | with_reducible apply Below.drew | with_reducible apply below_drewN | with_reducible refine below_call ?_ (by with_reducible assumption) ?_) <;> (first | omega | (simp; done) | (simp; omega) | (simp at *; omega))), Blk.new _ _ _, World.ownsRow_nil _ _ _ _⟩
  case round =>
    obtain ⟨k, n, c', A', hk, rfl, rfl, hn, hb, hB, hown⟩ := hrel
    have hzr := hB.lt
    by_cases hlt : k < m
    · obtain ⟨r, nn, a, b, o, e1, _, _, rfl, c0, c1, c2⟩ := (H.out.keep hb).at_ hlt
      have k0 : (0 : Int) ≤ (k : Int) := by omega
      have k1 : (k : Int) < (m : Int) := by omega
      have hst := outT_take (i := (i1, i2)) e1
      have b0 := hB.cell 0
      have b1 := hB.cell 1
      have hpre : S4 ⟨w.heap.size, 0, none⟩ ⟨w.heap.size, 1, none⟩ ⟨b, o + k * 3, none⟩ ⟨b, o + k * 3 + 1, none⟩ (.int .i64 i1) (.int .i64 i2) (.int .i64 r) (.int .i64 nn) wr := ⟨b0, b1, c0, c1⟩
      clear e1 b0 b1
      by_cases hq : (r = i1 ∧ nn = i2)
      · obtain ⟨rfl, rfl⟩ := hq
        rw [if_pos rfl, List.append_nil] at hst
        have Hst := Lib.hid hst
        clear hst c0 c1 c2
        go_upto_region 5 with fail
        (refine wp_region_held_drew (S := (S4 ⟨w.heap.size, 0, none⟩ ⟨w.heap.size, 1, none⟩ ⟨b, o + k * 3, none⟩ ⟨b, o + k * 3 + 1, none⟩ (.int .i64 r) (.int .i64 nn) (.int .i64 r) (.int .i64 nn))) (by kernel_rfl) ?_ (fun hHeld => ?_); (· exact hpre.drew))
        (refine take_op (i := 0) (v := ?_) rfl (by kernel_rfl) (by kernel_rfl) (by kernel_rfl) (fun _ _ _ h => h) (by rfl) ?_ hHeld ?_; rotate_left; (· (intro wS hSw; (try dsimp only at hSw); go_simp; first | done | with_reducible rfl)); simp only [Act.put, List.setIfInBounds_toArray, List.set_cons_zero, List.set_cons_succ]); (refine take_op (i := 1) (v := ?_) rfl (by kernel_rfl) (by kernel_rfl) (by kernel_rfl) (fun _ _ _ h => h) (by rfl) ?_ hHeld ?_; rotate_left; (· (intro wS hSw; (try dsimp only at hSw); go_simp; first | done | with_reducible rfl)); simp only [Act.put, List.setIfInBounds_toArray, List.set_cons_zero, List.set_cons_succ]); (refine take_op (i := 2) (v := ?_) rfl (by kernel_rfl) (by kernel_rfl) (by kernel_rfl) (fun _ _ _ h => h) (by rfl) ?_ hHeld ?_; rotate_left; (· (intro wS hSw; (try dsimp only at hSw); go_simp; first | done | with_reducible rfl)); simp only [Act.put, List.setIfInBounds_toArray, List.set_cons_zero, List.set_cons_succ]); (refine take_op (i := 3) (v := ?_) rfl (by kernel_rfl) (by kernel_rfl) (by kernel_rfl) (fun _ _ _ h => h) (by rfl) ?_ hHeld ?_; rotate_left; (· (intro wS hSw; (try dsimp only at hSw); go_simp; first | done | with_reducible rfl)); simp only [Act.put, List.setIfInBounds_toArray, List.set_cons_zero, List.set_cons_succ]); (refine take_op (i := 4) (v := ?_) rfl (by kernel_rfl) (by kernel_rfl) (by kernel_rfl) (fun _ _ _ h => h) (by rfl) ?_ hHeld ?_; rotate_left; (· (intro wS hSw; (try dsimp only at hSw); go_simp; first | done | with_reducible rfl)); simp only [Act.put, List.setIfInBounds_toArray, List.set_cons_zero, List.set_cons_succ]); (refine take_op (i := 5) (v := ?_) rfl (by kernel_rfl) (by kernel_rfl) (by kernel_rfl) (fun _ _ _ h => h) (by rfl) ?_ hHeld ?_; rotate_left; (· (intro wS hSw; (try dsimp only at hSw); go_simp; first | done | with_reducible rfl)); simp only [Act.put, List.setIfInBounds_toArray, List.set_cons_zero, List.set_cons_succ]); (refine take_op (i := 6) (v := ?_) rfl (by kernel_rfl) (by kernel_rfl) (by kernel_rfl) (fun _ _ _ h => h) (by rfl) ?_ hHeld ?_; rotate_left; (· (intro wS hSw; (try dsimp only at hSw); go_simp; first | done | with_reducible rfl)); simp only [Act.put, List.setIfInBounds_toArray, List.set_cons_zero, List.set_cons_succ])
        (refine wpAnyH_done (by kernel_rfl) ?_ _)
        replace hb := hb.drew
        replace hB := Blk.keep hB (Below.refl _ _).drew
        replace hown := ownT_keep hown (Below.refl _ _).drew
        clear hpre hHeld hzr
        generalize wr.drew = wd at hb hB hown ⊢
        go_wp2_with fail
        go_roundw
        case rel => exact ⟨k + 1, n, c', A', by omega, by go_num, rfl, by omega, hb, hB, by rw [Hst.out]; exact hown⟩
        case measure => simp [intOf]; omega
      · rw [if_neg (fun e => hq (by injection e with e1 e2; exact ⟨e1, e2⟩))] at hst
        have Hst := Lib.hid hst
        have hneq : (r == i1 && nn == i2) = false := by simpa using hq
        clear hst
        go_upto_region 5 with fail
        (refine wp_region_held_drew (S := (S4 ⟨w.heap.size, 0, none⟩ ⟨w.heap.size, 1, none⟩ ⟨b, o + k * 3, none⟩ ⟨b, o + k * 3 + 1, none⟩ (.int .i64 i1) (.int .i64 i2) (.int .i64 r) (.int .i64 nn))) (by kernel_rfl) ?_ (fun hHeld => ?_); (· exact hpre.drew))
        (refine take_op (i := 0) (v := ?_) rfl (by kernel_rfl) (by kernel_rfl) (by kernel_rfl) (fun _ _ _ h => h) (by rfl) ?_ hHeld ?_; rotate_left; (· (intro wS hSw; (try dsimp only at hSw); go_simp; first | done | with_reducible rfl)); simp only [Act.put, List.setIfInBounds_toArray, List.set_cons_zero, List.set_cons_succ]); (refine take_op (i := 1) (v := ?_) rfl (by kernel_rfl) (by kernel_rfl) (by kernel_rfl) (fun _ _ _ h => h) (by rfl) ?_ hHeld ?_; rotate_left; (· (intro wS hSw; (try dsimp only at hSw); go_simp; first | done | with_reducible rfl)); simp only [Act.put, List.setIfInBounds_toArray, List.set_cons_zero, List.set_cons_succ]); (refine take_op (i := 2) (v := ?_) rfl (by kernel_rfl) (by kernel_rfl) (by kernel_rfl) (fun _ _ _ h => h) (by rfl) ?_ hHeld ?_; rotate_left; (· (intro wS hSw; (try dsimp only at hSw); go_simp; first | done | with_reducible rfl)); simp only [Act.put, List.setIfInBounds_toArray, List.set_cons_zero, List.set_cons_succ]); (refine take_op (i := 3) (v := ?_) rfl (by kernel_rfl) (by kernel_rfl) (by kernel_rfl) (fun _ _ _ h => h) (by rfl) ?_ hHeld ?_; rotate_left; (· (intro wS hSw; (try dsimp only at hSw); go_simp; first | done | with_reducible rfl)); simp only [Act.put, List.setIfInBounds_toArray, List.set_cons_zero, List.set_cons_succ]); (refine take_op (i := 4) (v := ?_) rfl (by kernel_rfl) (by kernel_rfl) (by kernel_rfl) (fun _ _ _ h => h) (by rfl) ?_ hHeld ?_; rotate_left; (· (intro wS hSw; (try dsimp only at hSw); go_simp; first | done | with_reducible rfl)); simp only [Act.put, List.setIfInBounds_toArray, List.set_cons_zero, List.set_cons_succ]); (refine take_op (i := 5) (v := ?_) rfl (by kernel_rfl) (by kernel_rfl) (by kernel_rfl) (fun _ _ _ h => h) (by rfl) ?_ hHeld ?_; rotate_left; (· (intro wS hSw; (try dsimp only at hSw); go_simp; first | done | with_reducible rfl)); simp only [Act.put, List.setIfInBounds_toArray, List.set_cons_zero, List.set_cons_succ])
        (refine take_op (i := 6) (v := .bool true) rfl (by kernel_rfl) (by kernel_rfl) (by kernel_rfl) (fun _ _ _ h => h) (by rfl) ?_ hHeld ?_; (· (intro wS hSw; clear hSw; go_simp)); simp only [Act.put, List.setIfInBounds_toArray, List.set_cons_zero, List.set_cons_succ])
        (refine wpAnyH_done (by kernel_rfl) ?_ _)
        replace hb := hb.drew
        replace hB := Blk.keep hB (Below.refl _ _).drew
        replace hown := ownT_keep hown (Below.refl _ _).drew
        replace c0 := cell_keep (Below.refl wr.heap.size wr).drew c0
        replace c1 := cell_keep (Below.refl wr.heap.size wr).drew c1
        replace c2 := cell_keep (Below.refl wr.heap.size wr).drew c2
        clear hpre hHeld hneq hq hzr
        generalize wr.drew = wd at hb hB hown c0 c1 c2 ⊢
        have hzr := hB.lt
        go_wp2_with ((at_builtin; go_loud (refine wpList_app _ rfl (.tmp 20) (.tmp 25) 39 rfl _ 46 i0 _ 3 24 Try.underlying39 hi hz0 hzz hz2 rfl (by omega) _ _ _ rfl (ownT_keep hown (below_one (.cells #[.int .i64 r, .int .i64 nn, .int .i64 a] 46))) _ _ _ _ rfl (src_tim ((r, nn), a)) ?h63 ?hby ?hbase ?_); (case h63 => (unfold maxLen; first | omega | (simp; done) | (simp; omega))); (case hby => first | omega | (simp; done) | (simp; omega)); (case hbase => first | omega | (simp; done) | (simp; omega)); intro v9 w9 hownw9 hgroww9 hatw9 holdw9))
        obtain ⟨A8, c8, rfl, _, _⟩ := ownT_form hownw9
        have k1' := below_one (w := wd) (.cells #[.int .i64 r, .int .i64 nn, .int .i64 a] 46)
        go_roundw
        case rel => exact ⟨k + 1, n + 1, c8, A8, by omega, by go_num, rfl, by omega, below_app (below_call hb k1' hb.size) (ownT_keep hown k1') hgroww9 (by omega) (by simp; omega), blk_app (hB.keep k1') (ownT_keep hown k1') hgroww9 (by omega), by rw [Hst.out, flatT_snoc]; exact hownw9⟩
        case measure => simp [intOf]; omega
    · have hkl : k = x.length := by have := Hm.out; omega
      have nk : ¬ (k : Int) < (m : Int) := by omega
      rw [hkl, List.take_length] at hown
      have hnm : n = (outT x (i1, i2)).length := by have := hown.1; rw [flatT_length] at this; omega
      have Hn := Lib.hid hnm
      have Hown := Lib.hid hown
      have hform : n ≤ c' := by
        obtain ⟨_, _, e, h1, _⟩ := ownT_form hown
        injection e with _ _ e3
        omega
      clear hown hnm
      go_wp2_with fail
      go_ret
      exact ⟨A', n, c', rfl, hform, tims_own Hown.out Hn.out (by unfold maxLen; omega) Hwf.out, hb⟩
theorem mem_setT {x : List TimT} {t u : TimT} (h : u ∈ setT x t) : u = t ∨ u ∈ x := by
  rcases mem_insT.1 h with h | h
  · exact .inl h
  · exact .inr (mem_outT.1 h).1
abbrev SC3 (g b o k : Nat) (t u : TimT) (wx : World) : Prop := (∀ i, wx.cell? ⟨g, i, none⟩ = (#[.int .i64 t.1.1, .int .i64 t.1.2, .int .i64 t.2] : Array Value)[i]?) ∧ wx.cell? ⟨b, o + k * 3, none⟩ = some (.int .i64 u.1.1) ∧ wx.cell? ⟨b, o + k * 3 + 1, none⟩ = some (.int .i64 u.1.2) ∧ wx.cell? ⟨b, o + k * 3 + 2, none⟩ = some (.int .i64 u.2)
theorem SC3.keep {g b o k : Nat} {t u : TimT} {w w' : World} {ty : TypeId} (h : SC3 g b o k t u w) (hg : Blk w g ty #[.int .i64 t.1.1, .int .i64 t.1.2, .int .i64 t.2]) (hb : Below w.heap.size w w') : SC3 g b o k t u w' :=
  ⟨(hg.keep hb).cell, cell_keep hb h.2.1, cell_keep hb h.2.2.1, cell_keep hb h.2.2.2⟩
set_option maxHeartbeats 8000000 in
theorem set16_any (A : Option Addr) (m c : Nat) (x : List TimT) (t : TimT) (w : World) (h : TimsAt w A m x) (hm1 : m ≤ 100000) (ht : wfI t.1 ∧ (Lit.int .i64 t.2).wf = true) : Calls Try.prog 24 #[.slice A m c, timV t] w
    (fun e w' => ∃ A' m' c', e = .returned (.slice A' m' c') ∧ m' ≤ c' ∧ TimsAt w' A' m' (setT x t) ∧ Below w.heap.size w w') := by
  obtain ⟨⟨t1, t2⟩, t3⟩ := t
  have hout : ∀ W, Below w.heap.size w W → Calls Try.prog 26 #[.slice A m c, .agg #[.int .i64 t1, .int .i64 t2]] W (fun e w' => ∃ A' m' c', e = .returned (.slice A' m' c') ∧ m' ≤ c' ∧ TimsAt w' A' m' (outT x (t1, t2)) ∧ Below W.heap.size W w') := fun W hb => out16_any A m c x (t1, t2) W (h.keep hb) (by omega)
  have hol : (outT x (t1, t2)).length ≤ m := by rw [h.1]; exact List.length_filter_le _ _
  have Hol := Lib.hid hol
  have Ht := Lib.hid ht
  clear h hol
  obtain ⟨i0, hi, hz0, hzz, hz2⟩ := timinfo
  unfold setT
  generalize outT x (t1, t2) = y at hout Hol ⊢
  go_enter Try.func24, Try.ntmps24
  go_wp2_with (go_at_call 26; (with_reducible refine (hout _ (below_one _)).mono ?_); rintro e w1 ⟨Ay, my, cy, rfl, hcy, hy, hb1⟩)
  have hmy := hy.1
  have hB1 : Blk w1 w.heap.size 46 #[.int .i64 t1, .int .i64 t2, .int .i64 t3] := (Blk.new w _ _).keep hb1
  have hb0 : Below w.heap.size w w1 := by ((repeat' first | with_reducible exact Below.refl _ _ | with_reducible assumption | with_reducible refine Below.alloc ?_ ?_ _ | with_reducible refine Below.setCell ?_ ?_ _ | with_reducible apply Below.drew | with_reducible apply below_drewN | with_reducible refine below_call ?_ (by with_reducible assumption) ?_) <;> (first | omega | (simp; done) | (simp; omega) | (simp at *; omega)))
  have hmm : my ≤ 100000 := by have := Hol.out; omega
  have hz1 := hB1.lt
  have Hy := Lib.hid hy
  have Hmy := Lib.hid hmy
  clear hy hmy hout hb1 Hol
  go_loopw [5, 6, 8] (fun s5 s6 s8 wr => ∃ (k n c' : Nat) (A' : Option Addr) (d : Bool), k ≤ my ∧ s8 = .int .i64 k ∧ s5 = .slice A' n c' ∧ s6 = .bool d ∧ n ≤ 2 * k ∧ Hid (laying ((t1, t2), t3) (y.take k) = d) ∧ Below w1.heap.size w1 wr ∧ wr.ownsRow w1.heap.size 46 3 (.slice A' n c') n (flatT (layd ((t1, t2), t3) (y.take k)))) (fun _ _ s8 _ => my - (intOf s8).toNat)
  case atStart => exact ⟨0, 0, 0, none, false, by omega, rfl, rfl, rfl, by omega, Lib.hid rfl, Below.refl _ _, World.ownsRow_nil _ _ _ _⟩
  case round =>
    obtain ⟨k, n, c', A', d, hk, rfl, rfl, rfl, hn, hd, hb, hown⟩ := hrel
    have hB := hB1.keep hb
    have hzr := hb.size
    by_cases hlt : k < my
    · obtain ⟨r, nn, a, b, o, e1, _, _, rfl, cw0, cw1, cw2⟩ := Hy.out.at_ hlt
      have k0 : (0 : Int) ≤ (k : Int) := by omega
      have k1 : (k : Int) < (my : Int) := by omega
      have hlay := laying_take (t := ((t1, t2), t3)) e1
      have Hlay := Lib.hid hlay
      have E1 := Lib.hid e1
      have c0 := cell_keep hb cw0
      have c1 := cell_keep hb cw1
      have c2 := cell_keep hb cw2
      have hpre : SC3 w.heap.size b o k ((t1, t2), t3) ((r, nn), a) wr := ⟨hB.cell, c0, c1, c2⟩
      clear e1 hlay c0 c1 c2
      cases d
      case true =>
        have Hst : Hid (layd ((t1, t2), t3) (y.take (k + 1)) = layd ((t1, t2), t3) (y.take k) ++ [((r, nn), a)]) := Lib.hid (layd_skip E1.out (.inl hd.out))
        have D2 : Hid (laying ((t1, t2), t3) (y.take (k + 1)) = true) := Lib.hid (by rw [Hlay.out, hd.out]; rfl)
        go_upto_region 7 with fail
        (refine wp_region_held_drew (S := (fun _ => True)) (by kernel_rfl) ?_ (fun hHeld => ?_); (· exact trivial))
        (refine take_op (i := 0) (v := ?_) rfl (by kernel_rfl) (by kernel_rfl) (by kernel_rfl) (fun _ _ _ h => h) (by rfl) ?_ hHeld ?_; rotate_left; (· (intro wS hSw; (try dsimp only at hSw); go_simp; first | done | with_reducible rfl)); simp only [Act.put, List.setIfInBounds_toArray, List.set_cons_zero, List.set_cons_succ]); (refine take_op (i := 1) (v := ?_) rfl (by kernel_rfl) (by kernel_rfl) (by kernel_rfl) (fun _ _ _ h => h) (by rfl) ?_ hHeld ?_; rotate_left; (· (intro wS hSw; (try dsimp only at hSw); go_simp; first | done | with_reducible rfl)); simp only [Act.put, List.setIfInBounds_toArray, List.set_cons_zero, List.set_cons_succ]); (refine take_op (i := 2) (v := ?_) rfl (by kernel_rfl) (by kernel_rfl) (by kernel_rfl) (fun _ _ _ h => h) (by rfl) ?_ hHeld ?_; rotate_left; (· (intro wS hSw; (try dsimp only at hSw); go_simp; first | done | with_reducible rfl)); simp only [Act.put, List.setIfInBounds_toArray, List.set_cons_zero, List.set_cons_succ]); (refine skip_op (i := 3) rfl (by kernel_rfl) (by kernel_rfl) (by kernel_rfl) (fun _ _ _ h => h) (by rfl) hHeld ?_; simp only [Act.put, List.setIfInBounds_toArray, List.set_cons_zero, List.set_cons_succ]); (refine skip_op (i := 4) rfl (by kernel_rfl) (by kernel_rfl) (by kernel_rfl) (fun _ _ _ h => h) (by rfl) hHeld ?_; simp only [Act.put, List.setIfInBounds_toArray, List.set_cons_zero, List.set_cons_succ]); (refine skip_op (i := 5) rfl (by kernel_rfl) (by kernel_rfl) (by kernel_rfl) (fun _ _ _ h => h) (by rfl) hHeld ?_; simp only [Act.put, List.setIfInBounds_toArray, List.set_cons_zero, List.set_cons_succ]); (refine skip_op (i := 6) rfl (by kernel_rfl) (by kernel_rfl) (by kernel_rfl) (fun _ _ _ h => h) (by rfl) hHeld ?_; simp only [Act.put, List.setIfInBounds_toArray, List.set_cons_zero, List.set_cons_succ]); (refine skip_op (i := 7) rfl (by kernel_rfl) (by kernel_rfl) (by kernel_rfl) (fun _ _ _ h => h) (by rfl) hHeld ?_; simp only [Act.put, List.setIfInBounds_toArray, List.set_cons_zero, List.set_cons_succ]); (refine skip_op (i := 8) rfl (by kernel_rfl) (by kernel_rfl) (by kernel_rfl) (fun _ _ _ h => h) (by rfl) hHeld ?_; simp only [Act.put, List.setIfInBounds_toArray, List.set_cons_zero, List.set_cons_succ]); (refine take_op (i := 9) (v := ?_) rfl (by kernel_rfl) (by kernel_rfl) (by kernel_rfl) (fun _ _ _ h => h) (by rfl) ?_ hHeld ?_; rotate_left; (· (intro wS hSw; (try dsimp only at hSw); go_simp; first | done | with_reducible rfl)); simp only [Act.put, List.setIfInBounds_toArray, List.set_cons_zero, List.set_cons_succ])
        (refine wpAnyH_done (by kernel_rfl) ?_ _)
        replace hb := hb.drew
        replace hown := ownT_keep hown (Below.refl _ _).drew
        clear hpre hHeld hzr hB
        generalize wr.drew = wd at hb hown ⊢
        have hzr := hb.size
        have c0 := cell_keep hb cw0
        have c1 := cell_keep hb cw1
        have c2 := cell_keep hb cw2
        have kk := below_one (w := wd) (.cells #[.int .i64 r, .int .i64 nn, .int .i64 a] 46)
        go_wp2_with ((at_builtin; go_loud (refine wpList_app _ rfl (.tmp 33) (.tmp 38) 39 rfl _ 46 i0 _ 3 24 Try.underlying39 hi hz0 hzz hz2 rfl (by omega) _ _ _ rfl (ownT_keep hown (below_one (.cells #[.int .i64 r, .int .i64 nn, .int .i64 a] 46))) _ _ _ _ rfl (src_tim ((r, nn), a)) ?h63 ?hby ?hbase ?_); (case h63 => (unfold maxLen; first | omega | (simp; done) | (simp; omega))); (case hby => first | omega | (simp; done) | (simp; omega)); (case hbase => first | omega | (simp; done) | (simp; omega)); intro v9 w9 hownw9 hgroww9 hatw9 holdw9))
        obtain ⟨A8, c8, rfl, _, _⟩ := ownT_form hownw9
        go_roundw
        case rel => exact ⟨k + 1, n + 1, c8, A8, true, by omega, by go_num, rfl, rfl, by omega, D2, below_app (below_call hb kk hb.size) (ownT_keep hown kk) hgroww9 (by omega) (by simp; omega), by rw [Hst.out, flatT_snoc]; exact hownw9⟩
        case measure => simp [intOf]; omega
      case false =>
        by_cases hq : tLt ((t1, t2), t3) ((r, nn), a)
        · have Hst : Hid (layd ((t1, t2), t3) (y.take (k + 1)) = layd ((t1, t2), t3) (y.take k) ++ [((t1, t2), t3)] ++ [((r, nn), a)]) := Lib.hid (layd_lay E1.out hd.out hq)
          have D2 : Hid (laying ((t1, t2), t3) (y.take (k + 1)) = true) := Lib.hid (by rw [Hlay.out, hd.out]; simp [hq])
          have hah := fun W => ahead16_any ((t1, t2), t3) ((r, nn), a) W
          rw [decide_eq_true hq] at hah
          clear hq
          go_upto_region 7 with fail
          (refine wp_region_held_drew (S := (SC3 w.heap.size b o k ((t1, t2), t3) ((r, nn), a))) (by kernel_rfl) ?_ (fun hHeld => ?_); (· exact hpre.keep hB (Below.refl _ _).drew))
          replace hb := hb.drew
          replace hB := Blk.keep hB (Below.refl _ _).drew
          replace hown := ownT_keep hown (Below.refl _ _).drew
          clear hpre
          generalize wr.drew = wd at hb hB hown hHeld ⊢
          (refine take_op (i := 0) (v := ?_) rfl (by kernel_rfl) (by kernel_rfl) (by kernel_rfl) (fun _ _ _ h => h) (by rfl) ?_ hHeld ?_; rotate_left; (· (intro wS hSw; (try dsimp only at hSw); go_simp; first | done | with_reducible rfl)); simp only [Act.put, List.setIfInBounds_toArray, List.set_cons_zero, List.set_cons_succ]); (refine take_op (i := 1) (v := ?_) rfl (by kernel_rfl) (by kernel_rfl) (by kernel_rfl) (fun _ _ _ h => h) (by rfl) ?_ hHeld ?_; rotate_left; (· (intro wS hSw; (try dsimp only at hSw); go_simp; first | done | with_reducible rfl)); simp only [Act.put, List.setIfInBounds_toArray, List.set_cons_zero, List.set_cons_succ]); (refine take_op (i := 2) (v := ?_) rfl (by kernel_rfl) (by kernel_rfl) (by kernel_rfl) (fun _ _ _ h => h) (by rfl) ?_ hHeld ?_; rotate_left; (· (intro wS hSw; (try dsimp only at hSw); go_simp; first | done | with_reducible rfl)); simp only [Act.put, List.setIfInBounds_toArray, List.set_cons_zero, List.set_cons_succ]); (refine take_op (i := 3) (v := ?_) rfl (by kernel_rfl) (by kernel_rfl) (by kernel_rfl) (fun _ _ _ h => h) (by rfl) ?_ hHeld ?_; rotate_left; (· (intro wS hSw; (try dsimp only at hSw); go_simp; first | done | with_reducible rfl)); simp only [Act.put, List.setIfInBounds_toArray, List.set_cons_zero, List.set_cons_succ]); (refine take_op (i := 4) (v := ?_) rfl (by kernel_rfl) (by kernel_rfl) (by kernel_rfl) (fun _ _ _ h => h) (by rfl) ?_ hHeld ?_; rotate_left; (· (intro wS hSw; (try dsimp only at hSw); go_simp; first | done | with_reducible rfl)); simp only [Act.put, List.setIfInBounds_toArray, List.set_cons_zero, List.set_cons_succ]); (refine take_op (i := 5) (v := ?_) rfl (by kernel_rfl) (by kernel_rfl) (by kernel_rfl) (fun _ _ _ h => h) (by rfl) ?_ hHeld ?_; rotate_left; (· (intro wS hSw; (try dsimp only at hSw); go_simp; first | done | with_reducible rfl)); simp only [Act.put, List.setIfInBounds_toArray, List.set_cons_zero, List.set_cons_succ]); (refine take_op (i := 6) (v := ?_) rfl (by kernel_rfl) (by kernel_rfl) (by kernel_rfl) (fun _ _ _ h => h) (by rfl) ?_ hHeld ?_; rotate_left; (· (intro wS hSw; (try dsimp only at hSw); go_simp; first | done | with_reducible rfl)); simp only [Act.put, List.setIfInBounds_toArray, List.set_cons_zero, List.set_cons_succ]); (refine take_op (i := 7) (v := ?_) rfl (by kernel_rfl) (by kernel_rfl) (by kernel_rfl) (fun _ _ _ h => h) (by rfl) ?_ hHeld ?_; rotate_left; (· (intro wS hSw; (try dsimp only at hSw); go_simp; first | done | with_reducible rfl)); simp only [Act.put, List.setIfInBounds_toArray, List.set_cons_zero, List.set_cons_succ])
          (refine call_op (i := 8) rfl (by kernel_rfl) (by rfl) (fun K hK => ?_); go_simp; (go_at_call 60; (with_reducible refine (hah _).mono ?_); rintro e w2 ⟨rfl, hb2⟩; have hH2 := hHeld.keep hB hb2; replace hb := below_call hb hb2 hb.size; replace hB := Blk.keep hB hb2; replace hown := ownT_keep hown hb2; clear hb2); refine hK.out _ _ hH2 (fun hHeld2 => ?_); clear hK K hHeld; have hHeld := hHeld2; clear hHeld2; (try simp only [Act.put, List.setIfInBounds_toArray, List.set_cons_zero, List.set_cons_succ]))
          (refine take_op (i := 9) (v := ?_) rfl (by kernel_rfl) (by kernel_rfl) (by kernel_rfl) (fun _ _ _ h => h) (by rfl) ?_ hHeld ?_; rotate_left; (· (intro wS hSw; (try dsimp only at hSw); go_simp; first | done | with_reducible rfl)); simp only [Act.put, List.setIfInBounds_toArray, List.set_cons_zero, List.set_cons_succ])
          (refine wpAnyH_done (by kernel_rfl) ?_ _)
          clear hHeld hH2 hzr
          have hzr := hb.size
          have bc := hB.cell
          have kk := below_one (w := w2) (.cells #[.int .i64 t1, .int .i64 t2, .int .i64 t3] 46)
          go_upto_region 9 with ((at_builtin; go_loud (refine wpList_app _ rfl (.tmp 29) (.tmp 31) 39 rfl _ 46 i0 _ 3 24 Try.underlying39 hi hz0 hzz hz2 rfl (by omega) _ _ _ rfl (ownT_keep hown (below_one (.cells #[.int .i64 t1, .int .i64 t2, .int .i64 t3] 46))) _ _ _ _ rfl (src_tim ((t1, t2), t3)) ?h63 ?hby ?hbase ?_); (case h63 => (unfold maxLen; first | omega | (simp; done) | (simp; omega))); (case hby => first | omega | (simp; done) | (simp; omega)); (case hbase => first | omega | (simp; done) | (simp; omega)); intro v9 w9 hownw9 hgroww9 hatw9 holdw9))
          have hb9 : Below w1.heap.size w1 w9 := below_app (below_call hb kk hb.size) (ownT_keep hown kk) hgroww9 (Nat.le_refl _) (by simp; omega)
          obtain ⟨A8, c8, rfl, _, _⟩ := ownT_form hownw9
          rw [show flatT (layd ((t1, t2), t3) (y.take k)) ++ timL ((t1, t2), t3) = flatT (layd ((t1, t2), t3) (y.take k) ++ [((t1, t2), t3)]) from (flatT_snoc _ _).symm] at hownw9
          clear hb hB hown bc kk hgroww9 hatw9 holdw9 hzr
          have hzr := hb9.size
          have c0 := cell_keep hb9 cw0
          have c1 := cell_keep hb9 cw1
          have c2 := cell_keep hb9 cw2
          have kk := below_one (w := w9) (.cells #[.int .i64 r, .int .i64 nn, .int .i64 a] 46)
          go_wp2_with ((at_builtin; go_loud (refine wpList_app _ rfl (.tmp 33) (.tmp 38) 39 rfl _ 46 i0 _ 3 24 Try.underlying39 hi hz0 hzz hz2 rfl (by omega) _ _ _ rfl (ownT_keep hownw9 (below_one (.cells #[.int .i64 r, .int .i64 nn, .int .i64 a] 46))) _ _ _ _ rfl (src_tim ((r, nn), a)) ?h63 ?hby ?hbase ?_); (case h63 => (unfold maxLen; first | omega | (simp; done) | (simp; omega))); (case hby => first | omega | (simp; done) | (simp; omega)); (case hbase => first | omega | (simp; done) | (simp; omega)); intro v5 w5 hownw5 hgroww5 hatw5 holdw5))
          obtain ⟨A5, c5, rfl, _, _⟩ := ownT_form hownw5
          go_roundw
          case rel => exact ⟨k + 1, n + 1 + 1, c5, A5, true, by omega, by go_num, rfl, rfl, by omega, D2, below_app (below_call hb9 kk hb9.size) (ownT_keep hownw9 kk) hgroww5 (Nat.le_refl _) (by simp; omega), by rw [Hst.out, flatT_snoc]; exact hownw5⟩
          case measure => simp [intOf]; omega
        · have Hst : Hid (layd ((t1, t2), t3) (y.take (k + 1)) = layd ((t1, t2), t3) (y.take k) ++ [((r, nn), a)]) := Lib.hid (layd_skip E1.out (.inr hq))
          have D2 : Hid (laying ((t1, t2), t3) (y.take (k + 1)) = false) := Lib.hid (by rw [Hlay.out, hd.out]; simp [hq])
          have hah := fun W => ahead16_any ((t1, t2), t3) ((r, nn), a) W
          rw [decide_eq_false hq] at hah
          clear hq
          go_upto_region 7 with fail
          (refine wp_region_held_drew (S := (SC3 w.heap.size b o k ((t1, t2), t3) ((r, nn), a))) (by kernel_rfl) ?_ (fun hHeld => ?_); (· exact hpre.keep hB (Below.refl _ _).drew))
          replace hb := hb.drew
          replace hB := Blk.keep hB (Below.refl _ _).drew
          replace hown := ownT_keep hown (Below.refl _ _).drew
          clear hpre
          generalize wr.drew = wd at hb hB hown hHeld ⊢
          (refine take_op (i := 0) (v := ?_) rfl (by kernel_rfl) (by kernel_rfl) (by kernel_rfl) (fun _ _ _ h => h) (by rfl) ?_ hHeld ?_; rotate_left; (· (intro wS hSw; (try dsimp only at hSw); go_simp; first | done | with_reducible rfl)); simp only [Act.put, List.setIfInBounds_toArray, List.set_cons_zero, List.set_cons_succ]); (refine take_op (i := 1) (v := ?_) rfl (by kernel_rfl) (by kernel_rfl) (by kernel_rfl) (fun _ _ _ h => h) (by rfl) ?_ hHeld ?_; rotate_left; (· (intro wS hSw; (try dsimp only at hSw); go_simp; first | done | with_reducible rfl)); simp only [Act.put, List.setIfInBounds_toArray, List.set_cons_zero, List.set_cons_succ]); (refine take_op (i := 2) (v := ?_) rfl (by kernel_rfl) (by kernel_rfl) (by kernel_rfl) (fun _ _ _ h => h) (by rfl) ?_ hHeld ?_; rotate_left; (· (intro wS hSw; (try dsimp only at hSw); go_simp; first | done | with_reducible rfl)); simp only [Act.put, List.setIfInBounds_toArray, List.set_cons_zero, List.set_cons_succ]); (refine take_op (i := 3) (v := ?_) rfl (by kernel_rfl) (by kernel_rfl) (by kernel_rfl) (fun _ _ _ h => h) (by rfl) ?_ hHeld ?_; rotate_left; (· (intro wS hSw; (try dsimp only at hSw); go_simp; first | done | with_reducible rfl)); simp only [Act.put, List.setIfInBounds_toArray, List.set_cons_zero, List.set_cons_succ]); (refine take_op (i := 4) (v := ?_) rfl (by kernel_rfl) (by kernel_rfl) (by kernel_rfl) (fun _ _ _ h => h) (by rfl) ?_ hHeld ?_; rotate_left; (· (intro wS hSw; (try dsimp only at hSw); go_simp; first | done | with_reducible rfl)); simp only [Act.put, List.setIfInBounds_toArray, List.set_cons_zero, List.set_cons_succ]); (refine take_op (i := 5) (v := ?_) rfl (by kernel_rfl) (by kernel_rfl) (by kernel_rfl) (fun _ _ _ h => h) (by rfl) ?_ hHeld ?_; rotate_left; (· (intro wS hSw; (try dsimp only at hSw); go_simp; first | done | with_reducible rfl)); simp only [Act.put, List.setIfInBounds_toArray, List.set_cons_zero, List.set_cons_succ]); (refine take_op (i := 6) (v := ?_) rfl (by kernel_rfl) (by kernel_rfl) (by kernel_rfl) (fun _ _ _ h => h) (by rfl) ?_ hHeld ?_; rotate_left; (· (intro wS hSw; (try dsimp only at hSw); go_simp; first | done | with_reducible rfl)); simp only [Act.put, List.setIfInBounds_toArray, List.set_cons_zero, List.set_cons_succ]); (refine take_op (i := 7) (v := ?_) rfl (by kernel_rfl) (by kernel_rfl) (by kernel_rfl) (fun _ _ _ h => h) (by rfl) ?_ hHeld ?_; rotate_left; (· (intro wS hSw; (try dsimp only at hSw); go_simp; first | done | with_reducible rfl)); simp only [Act.put, List.setIfInBounds_toArray, List.set_cons_zero, List.set_cons_succ])
          (refine call_op (i := 8) rfl (by kernel_rfl) (by rfl) (fun K hK => ?_); go_simp; (go_at_call 60; (with_reducible refine (hah _).mono ?_); rintro e w2 ⟨rfl, hb2⟩; have hH2 := hHeld.keep hB hb2; replace hb := below_call hb hb2 hb.size; replace hB := Blk.keep hB hb2; replace hown := ownT_keep hown hb2; clear hb2); refine hK.out _ _ hH2 (fun hHeld2 => ?_); clear hK K hHeld; have hHeld := hHeld2; clear hHeld2; (try simp only [Act.put, List.setIfInBounds_toArray, List.set_cons_zero, List.set_cons_succ]))
          (refine take_op (i := 9) (v := ?_) rfl (by kernel_rfl) (by kernel_rfl) (by kernel_rfl) (fun _ _ _ h => h) (by rfl) ?_ hHeld ?_; rotate_left; (· (intro wS hSw; (try dsimp only at hSw); go_simp; first | done | with_reducible rfl)); simp only [Act.put, List.setIfInBounds_toArray, List.set_cons_zero, List.set_cons_succ])
          (refine wpAnyH_done (by kernel_rfl) ?_ _)
          clear hHeld hH2 hzr hB
          have hzr := hb.size
          have c0 := cell_keep hb cw0
          have c1 := cell_keep hb cw1
          have c2 := cell_keep hb cw2
          have kk := below_one (w := w2) (.cells #[.int .i64 r, .int .i64 nn, .int .i64 a] 46)
          go_wp2_with ((at_builtin; go_loud (refine wpList_app _ rfl (.tmp 33) (.tmp 38) 39 rfl _ 46 i0 _ 3 24 Try.underlying39 hi hz0 hzz hz2 rfl (by omega) _ _ _ rfl (ownT_keep hown (below_one (.cells #[.int .i64 r, .int .i64 nn, .int .i64 a] 46))) _ _ _ _ rfl (src_tim ((r, nn), a)) ?h63 ?hby ?hbase ?_); (case h63 => (unfold maxLen; first | omega | (simp; done) | (simp; omega))); (case hby => first | omega | (simp; done) | (simp; omega)); (case hbase => first | omega | (simp; done) | (simp; omega)); intro v9 w9 hownw9 hgroww9 hatw9 holdw9))
          obtain ⟨A8, c8, rfl, _, _⟩ := ownT_form hownw9
          go_roundw
          case rel => exact ⟨k + 1, n + 1, c8, A8, false, by omega, by go_num, rfl, rfl, by omega, D2, below_app (below_call hb kk hb.size) (ownT_keep hown kk) hgroww9 (by omega) (by simp; omega), by rw [Hst.out, flatT_snoc]; exact hownw9⟩
          case measure => simp [intOf]; omega
    · have hkl : k = y.length := by have := Hmy.out; omega
      have nk : ¬ (k : Int) < (my : Int) := by omega
      rw [hkl, List.take_length] at hown hd
      have Hkl := Lib.hid hkl
      clear hkl
      have hend := layd_end (t := ((t1, t2), t3)) (x := y)
      rw [hd.out] at hend
      have hwf : ∀ u ∈ insT ((t1, t2), t3) y, wfI u.1 ∧ (Lit.int .i64 u.2).wf = true := fun u hu => by
        rcases mem_insT.1 hu with rfl | hu
        · exact Ht.out
        · obtain ⟨j, hj⟩ := List.getElem?_of_mem hu
          exact (Hy.out.2.2 j u hj).1
      have Hwf := Lib.hid hwf
      have bc := hB.cell
      cases d
      case true =>
        have hend2 : insT ((t1, t2), t3) y = layd ((t1, t2), t3) y := hend
        rw [← hend2] at hown
        have Hown := Lib.hid hown
        have hform : n ≤ c' := by
          obtain ⟨_, _, e, h1, _⟩ := ownT_form hown
          injection e with _ _ e3
          omega
        have hnn : n = (insT ((t1, t2), t3) y).length := by have := hown.1; rw [flatT_length] at this; omega
        have Hnn := Lib.hid hnn
        clear hown hend hend2 hwf hnn
        go_wp2_with fail
        go_ret
        exact ⟨A', n, c', rfl, hform, tims_own Hown.out Hnn.out (by unfold maxLen; omega) Hwf.out, below_call hb0 hb hb0.size⟩
      case false =>
        have hend2 : insT ((t1, t2), t3) y = layd ((t1, t2), t3) y ++ [((t1, t2), t3)] := hend
        have Hend := Lib.hid hend2
        clear hend hend2 hwf
        have kk := below_one (w := wr) (.cells #[.int .i64 t1, .int .i64 t2, .int .i64 t3] 46)
        go_wp2_with ((at_builtin; go_loud (refine wpList_app _ rfl (.tmp 42) (.tmp 44) 39 rfl _ 46 i0 _ 3 24 Try.underlying39 hi hz0 hzz hz2 rfl (by omega) _ _ _ rfl (ownT_keep hown (below_one (.cells #[.int .i64 t1, .int .i64 t2, .int .i64 t3] 46))) _ _ _ _ rfl (src_tim ((t1, t2), t3)) ?h63 ?hby ?hbase ?_); (case h63 => (unfold maxLen; first | omega | (simp; done) | (simp; omega))); (case hby => first | omega | (simp; done) | (simp; omega)); (case hbase => first | omega | (simp; done) | (simp; omega)); intro v9 w9 hownw9 hgroww9 hatw9 holdw9))
        have hb9 : Below w1.heap.size w1 w9 := below_app (below_call hb kk hb.size) (ownT_keep hown kk) hgroww9 (Nat.le_refl _) (by simp; omega)
        rw [show flatT (layd ((t1, t2), t3) y) ++ timL ((t1, t2), t3) = flatT (insT ((t1, t2), t3) y) by rw [Hend.out, flatT_snoc]] at hownw9
        have hnn : n + 1 = (insT ((t1, t2), t3) y).length := by have := hownw9.1; rw [flatT_length] at this; omega
        obtain ⟨A8, c8, rfl, hc8, _⟩ := ownT_form hownw9
        have Hown := Lib.hid hownw9
        clear hownw9
        have Hnn := Lib.hid hnn
        clear hnn
        go_wp2_with fail
        go_ret
        exact ⟨A8, n + 1, c8, rfl, hc8, tims_own Hown.out Hnn.out (by unfold maxLen; omega) Hwf.out, below_call hb0 hb9 hb0.size⟩
end Go.Proofs.Ytpdlhcfepafjeaa
