/- The walk of the law WheelOnce. -/
import Derived.Test.YtpdlhcfepafjeaaAwake16
import Derived.WalkKit
import Derived.WalkSpells
import Derived.WalkLawsBesides
import Derived.Deep.RegionHeld3
import Derived.Deep.DrawnRows
import Derived.Deep.DeepCutAuto
import Derived.Deep.DeepFit
import Derived.Lib.Hide
import Derived.BigQuiet
import Derived.Deep.QuietTactic
import Derived.Deep.RegionHeld3
namespace Go.Proofs.Ytpdlhcfepafjeaa
open Go.RowKit
set_option linter.unusedVariables false
set_option linter.unusedSimpArgs false
set_option maxRecDepth 20000
attribute [local go_sem ↓] Go.wp_at_zero Go.wp_at_succ
attribute [local go_sem] World.cell?_alloc_some frozen_alloc_some
attribute [local go_sem ↓ high] id_neq_run id_eql_run

theorem inT_setT {x : List TimT} {t : TimT} {i : IdP} : inT (setT x t) i = (inT x i || decide (i = t.1)) := by
  rw [Bool.eq_iff_iff, Bool.or_eq_true, inT_iff, inT_iff, decide_eq_true_eq]
  constructor
  · rintro ⟨u, hu, e⟩
    rcases mem_insT.1 hu with rfl | hu
    · exact .inr e.symm
    · exact .inl ⟨u, (mem_outT.1 hu).1, e⟩
  · rintro (⟨u, hu, e⟩ | e)
    · by_cases h : u.1 = t.1
      · exact ⟨t, mem_insT.2 (.inl rfl), by rw [← h, e]⟩
      · exact ⟨u, mem_insT.2 (.inr (mem_outT.2 ⟨hu, h⟩)), e⟩
    · exact ⟨t, mem_insT.2 (.inl rfl), e.symm⟩
theorem setT_length {x : List TimT} (h : Ids1 x) (t : TimT) : (setT x t).length = if inT x t.1 then x.length else x.length + 1 := by
  have h1 := outT_length (i := t.1) h
  rw [setT, insT_length]
  unfold inT
  cases ha : x.any (fun u => decide (u.1 = t.1))
  · rw [ha] at h1; simp at h1 ⊢; omega
  · rw [ha] at h1; simp at h1 ⊢; omega
theorem dueN_all {x : List TimT} {now : Int} (h : ∀ t ∈ x, t.2 ≤ now) : dueN x now = x.length := by
  unfold dueN
  rw [show x.takeWhile (fun t => decide (t.2 ≤ now)) = x from ?_]
  induction x with
  | nil => rfl
  | cons t r ih => rw [List.takeWhile_cons, if_pos (by simpa using h t (by simp)), ih fun u hu => h u (by simp [hu])]
/-- The timers that the law lays. -/
def onceX (i k : IdP) (a b : Int) : List TimT := setT (setT (setT [] (i, a)) (k, a)) (i, b)
theorem onceX_ok (i k : IdP) (a b : Int) : TAsc (onceX i k a b) ∧ Ids1 (onceX i k a b) ∧ (onceX i k a b).length = (if i = k then 1 else 2) ∧ ∀ M, a ≤ M → b ≤ M → ∀ t ∈ onceX i k a b, t.2 ≤ M := by
  have n0 : Ids1 ([] : List TimT) := List.Pairwise.nil
  have n1 := setT_ids n0 (i, a)
  have n2 := setT_ids n1 (k, a)
  refine ⟨setT_asc (setT_asc (setT_asc List.Pairwise.nil _) _) _, setT_ids n2 _, ?_, fun M ha hb t ht => ?_⟩
  · unfold onceX
    rw [setT_length n2, setT_length n1, setT_length n0, inT_setT, inT_setT, inT_setT]
    have e0 : ∀ q, inT [] q = false := fun _ => rfl
    simp only [e0, Bool.false_or, decide_true, Bool.true_or, if_true, List.length_nil]
    by_cases h : i = k
    · subst h; simp
    · have h' : k ≠ i := fun e => h e.symm
      simp [h, h']
  · rcases mem_insT.1 ht with rfl | ht
    · exact hb
    · rcases mem_insT.1 (mem_outT.1 ht).1 with rfl | ht
      · exact ha
      · rcases mem_insT.1 (mem_outT.1 ht).1 with rfl | ht
        · exact ha
        · exact absurd (mem_outT.1 ht).1 (by simp)
set_option maxHeartbeats 8000000 in
theorem once_walk (i1 i2 k1 k2 a b : Int) (w : World) (w1 : (Lit.int .i64 i1).wf = true) (w2 : (Lit.int .i64 i2).wf = true) (w3 : (Lit.int .i64 k1).wf = true) (w4 : (Lit.int .i64 k2).wf = true) (w5 : (Lit.int .i64 a).wf = true) (w6 : (Lit.int .i64 b).wf = true) :
    Calls Try.prog 6 #[.agg #[.int .i64 i1, .int .i64 i2], .agg #[.int .i64 k1, .int .i64 k2], .int .i64 a, .int .i64 b] w (Gives w (.bool true)) := by
  have hnew := fun W => whnew_any W
  obtain ⟨hA, hI, hL, hM⟩ := onceX_ok (i1, i2) (k1, k2) a b
  have hmax := hM (max a b) (by omega) (by omega)
  have hdue := dueN_all hmax
  have hwi : wfI (i1, i2) := ⟨w1, w2⟩
  have hwk : wfI (k1, k2) := ⟨w3, w4⟩
  have X0 := Lib.hid (show (onceX (i1, i2) (k1, k2) a b) = setT (setT (setT [] ((i1, i2), a)) ((k1, k2), a)) ((i1, i2), b) from rfl)
  generalize onceX (i1, i2) (k1, k2) a b = x at *
  have HA := Lib.hid hA
  have HI := Lib.hid hI
  have HL := Lib.hid hL
  have HD := Lib.hid hdue
  have HWI := Lib.hid hwi
  have HWK := Lib.hid hwk
  have W5 := Lib.hid w5
  have W6 := Lib.hid w6
  clear hA hI hL hM hmax hdue hwi hwk w1 w2 w3 w4 w5 w6
  have I0 : Blk ((w.alloc (.cells #[.int .i64 i1, .int .i64 i2] 34)).alloc (.cells #[.int .i64 k1, .int .i64 k2] 34)) w.heap.size 34 #[.int .i64 i1, .int .i64 i2] := (Blk.new _ _ _).alloc _
  have K0 : Blk ((w.alloc (.cells #[.int .i64 i1, .int .i64 i2] 34)).alloc (.cells #[.int .i64 k1, .int .i64 k2] 34)) (w.heap.size + 1) 34 #[.int .i64 k1, .int .i64 k2] := Blk.newAt (by simp)
  have hb : Below w.heap.size w ((w.alloc (.cells #[.int .i64 i1, .int .i64 i2] 34)).alloc (.cells #[.int .i64 k1, .int .i64 k2] 34)) := by ((repeat' first | with_reducible exact Below.refl _ _ | with_reducible assumption | with_reducible refine Below.alloc ?_ ?_ _ | with_reducible refine Below.setCell ?_ ?_ _ | with_reducible apply Below.drew | with_reducible apply below_drewN | with_reducible refine below_call ?_ (by with_reducible assumption) ?_) <;> (first | omega | (simp; done) | (simp; omega) | (simp at *; omega)))
  have hz : ((w.alloc (.cells #[.int .i64 i1, .int .i64 i2] 34)).alloc (.cells #[.int .i64 k1, .int .i64 k2] 34)).heap.size = w.heap.size + 2 := by simp
  have HZ := Lib.hid hz
  clear hz
  go_enter Try.func6, Try.ntmps6
  go_upto_region 2 with (go_at_call 18; (with_reducible refine (hnew _).mono ?_); rintro e W1 ⟨rfl, H, hb1⟩)
  replace I0 := Blk.keep I0 hb1
  replace K0 := Blk.keep K0 hb1
  replace hb := below_call hb hb1 hb.size
  rw [HZ.out] at H
  clear HZ hb1 hnew
  have ic := I0.cell
  have kc := K0.cell
  go_upto_region 3 with (go_at_call 19; (with_reducible refine (whset_any _ _ _ _ ((i1, i2), a) _ H (by unfold maxLen; omega) HWI.out W5.out).mono ?_); rintro e w' ⟨rfl, H2, hg⟩; have hc := H.cells hg; replace I0 := hc.blk I0; replace K0 := hc.blk K0; replace hb := below_turn hb hg (by omega) hb.size; clear H hc hg ic kc; have H := H2; clear H2; have ic := I0.cell; have kc := K0.cell)
  go_upto_region 4 with (go_at_call 19; (with_reducible refine (whset_any _ _ _ _ ((k1, k2), a) _ H (by unfold maxLen; omega) HWK.out W5.out).mono ?_); rintro e w' ⟨rfl, H2, hg⟩; have hc := H.cells hg; replace I0 := hc.blk I0; replace K0 := hc.blk K0; replace hb := below_turn hb hg (by omega) hb.size; clear H hc hg ic kc; have H := H2; clear H2; have ic := I0.cell; have kc := K0.cell)
  go_upto_region 5 with (go_at_call 19; (with_reducible refine (whset_any _ _ _ _ ((i1, i2), b) _ H (by unfold maxLen; omega) HWI.out W6.out).mono ?_); rintro e w' ⟨rfl, H2, hg⟩; have hc := H.cells hg; replace I0 := hc.blk I0; replace K0 := hc.blk K0; replace hb := below_turn hb hg (by omega) hb.size; clear H hc hg ic kc; have H := H2; clear H2; have ic := I0.cell; have kc := K0.cell)
  rw [← X0.out] at H
  clear X0
  have D1 := fun W (h : WhAt W (w.heap.size + 2 + 1) (w.heap.size + 2) (0 + 1 + 1 + 1) x) => whdue_any _ _ _ x (max a b) W h HA.out HI.out (by have := HL.out; rw [this]; split <;> omega)
  have D2 := fun W (h : WhAt W (w.heap.size + 2 + 1) (w.heap.size + 2) (0 + 1 + 1 + 1) []) => whdue_any _ _ _ [] (max a b) W h List.Pairwise.nil List.Pairwise.nil (by simp)
  have hat := fun W (h : WhAt W (w.heap.size + 2 + 1) (w.heap.size + 2) (0 + 1 + 1 + 1) []) => what_any _ _ _ [] (i1, i2) W h HWI.out
  have hca := fun W (h : WhAt W (w.heap.size + 2 + 1) (w.heap.size + 2) (0 + 1 + 1 + 1) []) => whcancel_any _ _ _ [] (i1, i2) W h HWI.out
  rw [show atV [] (i1, i2) = 0 from rfl, show inT [] (i1, i2) = false from rfl] at hat
  rw [show inT [] (i1, i2) = false from rfl, show outT [] (i1, i2) = [] from rfl] at hca
  simp only at hat hca
  go_upto_region 6 with (go_at_call 21; (with_reducible refine (D1 _ H).mono ?_); rintro e W5 ⟨A, m, c, rfl, hI1, H2, hg⟩; have hc := H.cells hg; replace I0 := hc.blk I0; replace K0 := hc.blk K0; replace hb := below_turn hb hg (by omega) hb.size; clear H hc hg ic kc D1)
  rw [HD.out, List.drop_length] at H2
  have hm : m = x.length := by have := hI1.1; rw [HD.out, List.take_length, List.length_map] at this; exact this
  have Hm := Lib.hid hm
  clear hm hI1
  go_upto_region 7 with (go_at_call 21; (with_reducible refine (D2 _ H2).mono ?_); rintro e W6 ⟨A2, m2, c2, rfl, hI2, H, hg⟩; have hc := H2.cells hg; replace I0 := hc.blk I0; replace K0 := hc.blk K0; replace hb := below_turn hb hg (by omega) hb.size; clear H2 hc hg D2)
  rw [show ([] : List TimT).drop (dueN [] (max a b)) = [] from rfl] at H
  obtain rfl : m2 = 0 := hI2.1
  clear hI2
  have ic := I0.cell
  go_upto_region 9 with (go_at_call 23; (with_reducible refine (hat _ H).mono ?_); rintro e W7 ⟨rfl, hb7⟩; replace H := H.keep hb7; replace I0 := Blk.keep I0 hb7; replace K0 := Blk.keep K0 hb7; replace hb := below_call hb hb7 hb.size; clear hb7 ic; have ic := I0.cell)
  have kc := K0.cell
  have hle := fun W (h : WhAt W (w.heap.size + 2 + 1) (w.heap.size + 2) (0 + 1 + 1 + 1) []) => whlen_any _ _ _ [] W h
  have haw := fun W => awake16_any W
  clear hat
  by_cases hq : i1 = k1 ∧ i2 = k2
  · have hml : m = 1 := by rw [Hm.out, HL.out, if_pos (by rw [hq.1, hq.2])]
    subst hml
    obtain ⟨rfl, rfl⟩ := hq
    clear Hm HL HD HA HI
    go_wp2_with (first | (go_at_call 20; (with_reducible refine (hle _ H).mono ?_); rintro e W8 ⟨rfl, hb8⟩; replace H := H.keep hb8; replace I0 := Blk.keep I0 hb8; replace hb := below_call hb hb8 hb.size; clear hb8 ic kc K0; have ic := I0.cell) | (go_at_call 25; (with_reducible refine (hca _ H).mono ?_); rintro e W9 ⟨rfl, H9, hg⟩; replace hb := below_turn hb hg (by omega) hb.size; clear ic I0 hg H) | (go_at_call 17; (with_reducible refine (haw _).mono ?_); rintro e W10 ⟨rfl, hb10⟩; replace hb := below_call hb hb10 hb.size; clear hb10))
    go_ret
    exact ⟨rfl, hb⟩
  · have hml : m = 2 := by rw [Hm.out, HL.out, if_neg (fun e => hq (by injection e with e1 e2; exact ⟨e1, e2⟩))]
    subst hml
    have hneq : (i1 == k1 && i2 == k2) = false := by simpa using hq
    clear Hm HL HD HA HI hq
    go_wp2_with (first | (go_at_call 20; (with_reducible refine (hle _ H).mono ?_); rintro e W8 ⟨rfl, hb8⟩; replace H := H.keep hb8; replace I0 := Blk.keep I0 hb8; replace hb := below_call hb hb8 hb.size; clear hb8 ic kc K0; have ic := I0.cell) | (go_at_call 25; (with_reducible refine (hca _ H).mono ?_); rintro e W9 ⟨rfl, H9, hg⟩; replace hb := below_turn hb hg (by omega) hb.size; clear ic I0 hg H) | (go_at_call 17; (with_reducible refine (haw _).mono ?_); rintro e W10 ⟨rfl, hb10⟩; replace hb := below_call hb hb10 hb.size; clear hb10))
    go_ret
    exact ⟨rfl, hb⟩
end Go.Proofs.Ytpdlhcfepafjeaa
