/- A list of ids without one of them: what slices.DeleteFunc does, in plain Lean. The document's set without an id. The walk of the law IndexAll. -/
import Derived.Test.YtpdfbkkhmfnnjaaIndexMeetsQ0
import Derived.Test.YtpdfbkkhmfnnjaaIndexPlaysQ0
import Derived.Test.YtpdfbkkhmfnnjaaIndexPlaysQ2
import Derived.WalkKit
import Derived.WalkSpells
import Derived.WalkLawsBesides
import Derived.Deep.RegionHeld3
import Derived.Deep.DrawnRows
import Derived.Deep.DeepCutAuto
import Derived.Deep.DeepFit
import Derived.Lib.Hide
import Derived.BigQuiet
import Derived.Deep.QuietTactic
namespace Go.Proofs.Ytpdfbkkhmfnnjaa
set_option linter.unusedVariables false
set_option linter.unusedSimpArgs false

def fl (x : IdP) (l : List IdP) : List IdP := l.filter fun y => decide (y ≠ x)
theorem fl_step {x y : IdP} {l : List IdP} {j : Nat} (hy : l[j]? = some y) : fl x (l.take (j + 1)) = fl x (l.take j) ++ (if y = x then [] else [y]) := by
  unfold fl
  rw [List.take_add_one, hy, List.filter_append]
  congr 1
  by_cases h : y = x <;> simp [h]
theorem fl_none {x : IdP} {l : List IdP} (h : x ∉ l) : fl x l = l := by
  unfold fl
  rw [List.filter_eq_self]
  intro y hy
  exact decide_eq_true fun e => h (e ▸ hy)
theorem fl_not {x : IdP} {l : List IdP} : x ∉ fl x l := by simp [fl]
theorem fl_sub {x y : IdP} {l : List IdP} (h : y ∈ fl x l) : y ∈ l := (List.mem_filter.1 h).1
theorem fl_asc {x : IdP} {l : List IdP} (h : Asc l) : Asc (fl x l) := h.filter _
/-- The loop's relation: of the first j the kept ones lie at the row's head; from j on the row is as it was. -/
structure DelInv (l R : List IdP) (x : IdP) (j kk : Nat) : Prop where
  len : R.length = l.length
  cnt : (fl x (l.take j)).length = kk
  low : ∀ p, p < kk → R[p]? = (fl x (l.take j))[p]?
  high : ∀ p, j ≤ p → R[p]? = l[p]?
  lt : kk < j
theorem DelInv.start {l : List IdP} {x : IdP} {i : Nat} (hi : l[i]? = some x) (h : x ∉ l.take i) : DelInv l l x (i + 1) i := by
  have hil : i < l.length := (List.getElem?_eq_some_iff.1 hi).1
  have e : fl x (l.take (i + 1)) = l.take i := by rw [fl_step hi, if_pos rfl, List.append_nil, fl_none h]
  exact ⟨rfl, by rw [e, List.length_take]; omega, fun p hp => by rw [e, List.getElem?_take, if_pos hp], fun _ _ => rfl, Nat.lt_succ_self _⟩
theorem DelInv.skip {l R : List IdP} {x : IdP} {j kk : Nat} (h : DelInv l R x j kk) (hy : l[j]? = some x) : DelInv l R x (j + 1) kk := by
  have e : fl x (l.take (j + 1)) = fl x (l.take j) := by rw [fl_step hy, if_pos rfl, List.append_nil]
  exact ⟨h.len, by rw [e]; exact h.cnt, fun p hp => by rw [e]; exact h.low p hp, fun p hp => h.high p (by omega), by have := h.lt; omega⟩
theorem DelInv.keep {l R : List IdP} {x y : IdP} {j kk : Nat} (h : DelInv l R x j kk) (hy : l[j]? = some y) (hne : y ≠ x) : DelInv l (R.set kk y) x (j + 1) (kk + 1) := by
  have hjl : j < l.length := (List.getElem?_eq_some_iff.1 hy).1
  have hlt := h.lt
  have hlen := h.len
  have e : fl x (l.take (j + 1)) = fl x (l.take j) ++ [y] := by rw [fl_step hy, if_neg hne]
  refine ⟨by simp [hlen], by rw [e, List.length_append, h.cnt]; rfl, fun p hp => ?_, fun p hp => ?_, by omega⟩
  · rw [e]
    by_cases hpk : p = kk
    · subst hpk
      rw [List.getElem?_set_self (by omega), List.getElem?_append_right (by rw [h.cnt]; exact Nat.le_refl _), h.cnt, Nat.sub_self]
      rfl
    · rw [List.getElem?_set_ne (fun e => hpk e.symm), List.getElem?_append_left (by rw [h.cnt]; omega)]
      exact h.low p (by omega)
  · rw [List.getElem?_set_ne (by omega)]
    exact h.high p (by omega)
theorem DelInv.done {l R : List IdP} {x : IdP} {kk : Nat} (h : DelInv l R x l.length kk) : (fl x l).length = kk ∧ ∀ (p : Nat) (y : IdP), (fl x l)[p]? = some y → R[p]? = some y := by
  have hc := h.cnt
  have hl := h.low
  rw [List.take_length] at hc hl
  refine ⟨hc, fun p y hp => ?_⟩
  have : p < kk := by rw [← hc]; exact (List.getElem?_eq_some_iff.1 hp).1
  rw [hl p this, hp]
end Go.Proofs.Ytpdfbkkhmfnnjaa

namespace Go.Proofs.Ytpdfbkkhmfnnjaa
open Go.RowKit
set_option linter.unusedVariables false
set_option linter.unusedSimpArgs false
set_option maxRecDepth 20000
attribute [local go_sem ↓] Go.wp_at_zero Go.wp_at_succ
attribute [local go_sem] World.cell?_alloc_some frozen_alloc_some
open Go.Sort Go.Lib

section
attribute [local go_sem ↓ high] id_neq_run id_eql_run
set_option maxHeartbeats 4000000 in
theorem without5_own (A : Option Addr) (m c : Nat) (l : List IdP) (x1 x2 : Int) (w : World) (h1 : IdsAt w A m l) (hm : m ≤ 1000000) :
    Calls Try.prog 20 #[.slice A m c, .agg #[.int .i64 x1, .int .i64 x2]] w
      fun e w' => ∃ A' k c', e = .returned (.slice A' k c') ∧ w'.ownsRow (w.heap.size + 1) 26 2 (.slice A' k c') k (flat2 (fl (x1, x2) l)) ∧ Below w.heap.size w w' := by
  have H1 := Lib.hid h1
  have Hm := Lib.hid h1.1
  have hwf : ∀ z ∈ fl (x1, x2) l, (Lit.int .i64 z.1).wf = true ∧ (Lit.int .i64 z.2).wf = true := fun z hz => h1.wf z (fl_sub hz)
  have Hwf := Lib.hid hwf
  clear h1 hwf
  go_enter Try.func20, Try.ntmps20
  go_wp2_with fail
  go_loopw [5, 6] (fun s5 s6 wr => ∃ (i k c' : Nat) (A' : Option Addr), i ≤ m ∧ s6 = .int .i64 i ∧ s5 = .slice A' k c' ∧ k ≤ i ∧ wr.ownsRow (w.heap.size + 1) 26 2 (.slice A' k c') k (flat2 (fl (x1, x2) (l.take i))) ∧ Below (w.heap.size + 1) (w.alloc (.cells #[.int .i64 x1, .int .i64 x2] 26)) wr) (fun s5 s6 _ => m - (intOf s6).toNat)
  case atStart => exact ⟨0, 0, 0, none, by omega, rfl, rfl, by omega, by simp [fl, flat2]; exact World.ownsRow_nil _ _ _ _, Below.refl _ _⟩
  case round =>
    obtain ⟨i, k, c', A', hi, rfl, rfl, hkm, hown, hb0⟩ := hrel
    have hbr := below_w hb0
    have hzr := hb0.size
    simp only [World.size_alloc] at hzr
    have t0 : wr.cell? ⟨w.heap.size, 0, none⟩ = some (.int .i64 x1) := (hb0.cell (p := ⟨w.heap.size, 0, none⟩) (by simp)).trans (new_cell w #[.int .i64 x1, .int .i64 x2] 26 0 rfl).1
    have t1 : wr.cell? ⟨w.heap.size, 1, none⟩ = some (.int .i64 x2) := (hb0.cell (p := ⟨w.heap.size, 1, none⟩) (by simp)).trans (new_cell w #[.int .i64 x1, .int .i64 x2] 26 1 rfl).1
    by_cases hlt : i < m
    · obtain ⟨r, n, b, o, e1, _, _, rfl, pw0, pw1⟩ := H1.out.at_ hlt
      have E1 := Lib.hid e1
      have p0 := cell_keep hbr pw0
      have p1 := cell_keep hbr pw1
      have i0 : (0 : Int) ≤ (i : Int) := by omega
      have i1 : (i : Int) < (m : Int) := by omega
      have hst := fl_step (x := (x1, x2)) e1
      clear e1
      have hpre : S4 ⟨w.heap.size, 0, none⟩ ⟨w.heap.size, 1, none⟩ ⟨b, o + i * 2, none⟩ ⟨b, o + i * 2 + 1, none⟩ (.int .i64 x1) (.int .i64 x2) (.int .i64 r) (.int .i64 n) wr := ⟨t0, t1, p0, p1⟩
      by_cases hq : r = x1 ∧ n = x2
      · obtain ⟨rfl, rfl⟩ := hq
        rw [if_pos rfl, List.append_nil] at hst
        have Hst := Lib.hid hst
        clear hst t0 t1 p0 p1 pw0 pw1
        go_upto_region 5 with fail
        (refine wp_region_held_drew (S := (S4 ⟨w.heap.size, 0, none⟩ ⟨w.heap.size, 1, none⟩ ⟨b, o + i * 2, none⟩ ⟨b, o + i * 2 + 1, none⟩ (.int .i64 r) (.int .i64 n) (.int .i64 r) (.int .i64 n))) (by kernel_rfl) ?_ (fun hHeld => ?_); (· exact hpre.drew))
        (refine take_op (i := 0) (v := ?_) rfl (by kernel_rfl) (by kernel_rfl) (by kernel_rfl) (fun _ _ _ h => h) (by rfl) ?_ hHeld ?_; rotate_left; (· (intro wS hSw; (try dsimp only at hSw); go_simp; first | done | with_reducible rfl)); simp only [Act.put, List.setIfInBounds_toArray, List.set_cons_zero, List.set_cons_succ]); (refine take_op (i := 1) (v := ?_) rfl (by kernel_rfl) (by kernel_rfl) (by kernel_rfl) (fun _ _ _ h => h) (by rfl) ?_ hHeld ?_; rotate_left; (· (intro wS hSw; (try dsimp only at hSw); go_simp; first | done | with_reducible rfl)); simp only [Act.put, List.setIfInBounds_toArray, List.set_cons_zero, List.set_cons_succ]); (refine take_op (i := 2) (v := ?_) rfl (by kernel_rfl) (by kernel_rfl) (by kernel_rfl) (fun _ _ _ h => h) (by rfl) ?_ hHeld ?_; rotate_left; (· (intro wS hSw; (try dsimp only at hSw); go_simp; first | done | with_reducible rfl)); simp only [Act.put, List.setIfInBounds_toArray, List.set_cons_zero, List.set_cons_succ]); (refine take_op (i := 3) (v := ?_) rfl (by kernel_rfl) (by kernel_rfl) (by kernel_rfl) (fun _ _ _ h => h) (by rfl) ?_ hHeld ?_; rotate_left; (· (intro wS hSw; (try dsimp only at hSw); go_simp; first | done | with_reducible rfl)); simp only [Act.put, List.setIfInBounds_toArray, List.set_cons_zero, List.set_cons_succ]); (refine take_op (i := 4) (v := ?_) rfl (by kernel_rfl) (by kernel_rfl) (by kernel_rfl) (fun _ _ _ h => h) (by rfl) ?_ hHeld ?_; rotate_left; (· (intro wS hSw; (try dsimp only at hSw); go_simp; first | done | with_reducible rfl)); simp only [Act.put, List.setIfInBounds_toArray, List.set_cons_zero, List.set_cons_succ]); (refine take_op (i := 5) (v := ?_) rfl (by kernel_rfl) (by kernel_rfl) (by kernel_rfl) (fun _ _ _ h => h) (by rfl) ?_ hHeld ?_; rotate_left; (· (intro wS hSw; (try dsimp only at hSw); go_simp; first | done | with_reducible rfl)); simp only [Act.put, List.setIfInBounds_toArray, List.set_cons_zero, List.set_cons_succ])
        (refine wpAnyH_done (by kernel_rfl) ?_ _)
        replace hown := own_keep hown ((Below.refl _ _).drew)
        replace hb0 := hb0.drew
        clear hpre hHeld
        generalize wr.drew = wd at hown hb0 ⊢
        go_wp2_with fail
        go_roundw
        case rel => exact ⟨i + 1, k, c', A', by omega, by go_num, rfl, by omega, by rw [Hst.out]; exact hown, hb0⟩
        case measure => simp [intOf]; omega
      · rw [if_neg (fun e => hq (by injection e with e1 e2; exact ⟨e1, e2⟩))] at hst
        have Hst := Lib.hid hst
        have hneq : (r == x1 && n == x2) = false := by simpa using hq
        clear hst t0 t1
        go_upto_region 5 with fail
        (refine wp_region_held_drew (S := (S4 ⟨w.heap.size, 0, none⟩ ⟨w.heap.size, 1, none⟩ ⟨b, o + i * 2, none⟩ ⟨b, o + i * 2 + 1, none⟩ (.int .i64 x1) (.int .i64 x2) (.int .i64 r) (.int .i64 n))) (by kernel_rfl) ?_ (fun hHeld => ?_); (· exact hpre.drew))
        (refine take_op (i := 0) (v := ?_) rfl (by kernel_rfl) (by kernel_rfl) (by kernel_rfl) (fun _ _ _ h => h) (by rfl) ?_ hHeld ?_; rotate_left; (· (intro wS hSw; (try dsimp only at hSw); go_simp; first | done | with_reducible rfl)); simp only [Act.put, List.setIfInBounds_toArray, List.set_cons_zero, List.set_cons_succ]); (refine take_op (i := 1) (v := ?_) rfl (by kernel_rfl) (by kernel_rfl) (by kernel_rfl) (fun _ _ _ h => h) (by rfl) ?_ hHeld ?_; rotate_left; (· (intro wS hSw; (try dsimp only at hSw); go_simp; first | done | with_reducible rfl)); simp only [Act.put, List.setIfInBounds_toArray, List.set_cons_zero, List.set_cons_succ]); (refine take_op (i := 2) (v := ?_) rfl (by kernel_rfl) (by kernel_rfl) (by kernel_rfl) (fun _ _ _ h => h) (by rfl) ?_ hHeld ?_; rotate_left; (· (intro wS hSw; (try dsimp only at hSw); go_simp; first | done | with_reducible rfl)); simp only [Act.put, List.setIfInBounds_toArray, List.set_cons_zero, List.set_cons_succ]); (refine take_op (i := 3) (v := ?_) rfl (by kernel_rfl) (by kernel_rfl) (by kernel_rfl) (fun _ _ _ h => h) (by rfl) ?_ hHeld ?_; rotate_left; (· (intro wS hSw; (try dsimp only at hSw); go_simp; first | done | with_reducible rfl)); simp only [Act.put, List.setIfInBounds_toArray, List.set_cons_zero, List.set_cons_succ]); (refine take_op (i := 4) (v := ?_) rfl (by kernel_rfl) (by kernel_rfl) (by kernel_rfl) (fun _ _ _ h => h) (by rfl) ?_ hHeld ?_; rotate_left; (· (intro wS hSw; (try dsimp only at hSw); go_simp; first | done | with_reducible rfl)); simp only [Act.put, List.setIfInBounds_toArray, List.set_cons_zero, List.set_cons_succ])
        (refine take_op (i := 5) (v := .bool true) rfl (by kernel_rfl) (by kernel_rfl) (by kernel_rfl) (fun _ _ _ h => h) (by rfl) ?_ hHeld ?_; (· (intro wS hSw; clear hSw; go_simp)); simp only [Act.put, List.setIfInBounds_toArray, List.set_cons_zero, List.set_cons_succ])
        (refine wpAnyH_done (by kernel_rfl) ?_ _)
        replace hown := own_keep hown ((Below.refl _ _).drew)
        replace hb0 := hb0.drew
        rw [show wr.heap.size = wr.drew.heap.size from rfl] at hzr
        obtain ⟨t0, t1, q0, q1⟩ := hHeld
        clear hpre p0 p1 hneq hq
        generalize wr.drew = wd at t0 t1 q0 q1 hown hb0 hzr ⊢
        go_wp2_with (at_builtin; obtain ⟨i0, hi0, hz00, hz01, hz02⟩ := idinfo; (at_builtin; go_loud (refine wpList_app _ rfl (.tmp 19) (.tmp 24) 42 rfl _ 26 i0 _ 2 16 Try.underlying42 hi0 hz00 hz01 hz02 rfl (by omega) _ _ _ rfl (hown.alloc _) _ _ _ _ rfl src_two' ?h63 ?hby ?hbase ?_); (case h63 => (unfold maxLen; first | omega | (simp; done) | (simp; omega))); (case hby => first | omega | (simp; done) | (simp; omega)); (case hbase => first | omega | (simp; done) | (simp; omega)); intro v_w3' w3' hownw3' hgroww3' hatw3' holdw3'); clear hi0 hz00 hz01 hz02; have hb3 := below_app ((hb0).alloc (by omega) (.cells #[_, _] 26)) (hown.alloc _) hgroww3' (Nat.le_refl _) (by simp; omega); have hown3 : w3'.ownsRow (w.heap.size + 1) 26 2 v_w3' (k + 1) (flat2 ((fl (x1, x2) (l.take i) ++ [(r, n)]))) := (by rw [flat2_append]; exact hownw3'); obtain ⟨A5, c5, rfl, _, _⟩ := own_form5 hown3; have hz3 := hb3.size; simp only [World.size_alloc] at hz3; skip)
        go_roundw
        case rel => exact ⟨i + 1, k + 1, c5, A5, by omega, by go_num, rfl, by omega, by rw [Hst.out]; exact hown3, hb3⟩
        case measure => simp [intOf]; omega
    · have hil : i = l.length := by have := Hm.out; omega
      have ni : ¬ (i : Int) < (m : Int) := by omega
      rw [hil, List.take_length] at hown
      have Hown := Lib.hid hown
      clear hown
      go_wp2_with fail
      go_ret
      exact ⟨A', k, c', rfl, Hown.out, hbr⟩
end
theorem without5_any (A : Option Addr) (m c : Nat) (l : List IdP) (x1 x2 : Int) (w : World) (h1 : IdsAt w A m l) (hm : m ≤ 1000000) :
    Calls Try.prog 20 #[.slice A m c, .agg #[.int .i64 x1, .int .i64 x2]] w
      fun e w' => ∃ A' k c', e = .returned (.slice A' k c') ∧ IdsAt w' A' k (fl (x1, x2) l) ∧ Below w.heap.size w w' :=
  (without5_own A m c l x1 x2 w h1 hm).mono fun e w' ⟨A', k, c', e1, hown, hb⟩ => by
    have hk : k ≤ m := by
      have h2 := hown.1
      rw [flat2_length] at h2
      have h3 : (fl (x1, x2) l).length ≤ l.length := List.length_filter_le _ _
      have := h1.1
      omega
    obtain ⟨r1, _, _⟩ := ids_of_own hown (by unfold maxLen; omega) (fun z hz => h1.wf z (fl_sub hz))
    exact ⟨A', k, c', e1, r1, hb⟩
end Go.Proofs.Ytpdfbkkhmfnnjaa

namespace Go.Proofs.Ytpdfbkkhmfnnjaa
open Go.RowKit
set_option linter.unusedVariables false
set_option linter.unusedSimpArgs false
set_option maxRecDepth 20000
attribute [local go_sem ↓] Go.wp_at_zero Go.wp_at_succ
attribute [local go_sem] World.cell?_alloc_some frozen_alloc_some
attribute [local go_sem ↓ high] id_neq_run id_eql_run
open Go.Maps

def wallC : CmdT := ⟨6, 0, 0, ⟨#[]⟩, ⟨#[]⟩, 0⟩
def zeroC : CmdT := ⟨0, 0, 0, ⟨#[]⟩, ⟨#[]⟩, 0⟩
theorem wall_ok : wallC.Ok := ⟨by decide, by decide, by decide, by decide +kernel, by decide +kernel, by decide⟩
theorem zero_ok : zeroC.Ok := ⟨by decide, by decide, by decide, by decide +kernel, by decide +kernel, by decide⟩
/-- What was put in and isn't a no-op. -/
def AllInv (y : List EntT) (al : List IdP) : Prop := (∀ x, x ∈ al ↔ ∃ e ∈ y, e.i = x ∧ e.c.kind ≠ 0) ∧ (∀ e ∈ y, 0 ≤ e.i.1)
theorem AllInv.nil : AllInv [] [] := ⟨fun x => by simp, fun e h => by cases h⟩
theorem AllInv.put {y : List EntT} {al : List IdP} (h : AllInv y al) (e : EntT) (he : 0 ≤ e.i.1) : AllInv (putE y e) (fl e.i al ++ if e.c.kind = 0 then [] else [e.i]) := by
  refine ⟨fun x => ?_, fun u hu => ?_⟩
  · simp only [List.mem_append, fl, List.mem_filter, decide_eq_true_eq]
    rw [h.1 x]
    constructor
    · rintro (⟨⟨u, hu, rfl, hk⟩, hne⟩ | hx)
      · exact ⟨u, List.mem_append_left _ (mem_dropE.2 ⟨hu, hne⟩), rfl, hk⟩
      · split at hx
        · cases hx
        · next hk => simp at hx; subst hx; exact ⟨e, by simp [putE], rfl, hk⟩
    · rintro ⟨u, hu, rfl, hk⟩
      rcases List.mem_append.1 hu with hu | hu
      · obtain ⟨h1, h2⟩ := mem_dropE.1 hu
        exact .inl ⟨⟨u, h1, rfl, hk⟩, h2⟩
      · simp at hu
        subst hu
        rw [if_neg hk]
        exact .inr (by simp)
  · rcases List.mem_append.1 hu with hu | hu
    · exact h.2 u (mem_dropE.1 hu).1
    · simp at hu; subst hu; exact he
theorem wall_meets {y : List EntT} (hp : ∀ e ∈ y, 0 ≤ e.i.1) (e : EntT) (he : e ∈ y) : meetE wallC (-1, 0) e = decide (e.c.kind ≠ 0) := by
  have h1 : e.i ≠ (-1, 0) := fun h => by have := hp e he; rw [h] at this; simp at this
  unfold meetE cmeet wallC
  by_cases hk : e.c.kind = 0 <;> simp [h1, hk]
theorem all_deps {y : List EntT} {al : List IdP} (h : AllInv y al) : depsE y wallC (-1, 0) = idSet al := by
  refine idSet_congr fun x => ?_
  rw [h.1 x]
  simp only [List.mem_map, List.mem_filter, EntT.id]
  constructor
  · rintro ⟨e, ⟨he, hm⟩, rfl⟩
    rw [wall_meets h.2 e he] at hm
    exact ⟨e, he, rfl, of_decide_eq_true hm⟩
  · rintro ⟨e, he, rfl, hk⟩
    exact ⟨e, ⟨he, by rw [wall_meets h.2 e he]; exact decide_eq_true hk⟩, rfl⟩
theorem none_deps (y : List EntT) : depsE y zeroC (-1, 0) = [] := by
  unfold depsE
  rw [List.filter_eq_nil_iff.2 fun e _ => by simp [meetE, cmeet, zeroC]]
  rfl
theorem drop_deps {y : List EntT} {al : List IdP} (h : AllInv y al) (d : IdP) : depsE (dropE y d) wallC (-1, 0) = fl d (idSet al) := by
  refine asc_unique (asc_idSet _) (fl_asc (asc_idSet al)) fun x => ?_
  unfold depsE
  rw [mem_idSet]
  simp only [List.mem_map, List.mem_filter, EntT.id, fl, decide_eq_true_eq]
  rw [mem_idSet, h.1 x]
  constructor
  · rintro ⟨e, ⟨he, hm⟩, rfl⟩
    obtain ⟨h1, h2⟩ := mem_dropE.1 he
    rw [wall_meets h.2 e h1] at hm
    exact ⟨⟨e, h1, rfl, of_decide_eq_true hm⟩, h2⟩
  · rintro ⟨⟨e, he, rfl, hk⟩, hne⟩
    exact ⟨e, ⟨mem_dropE.2 ⟨he, hne⟩, by rw [wall_meets h.2 e he]; exact decide_eq_true hk⟩, rfl⟩
/-- The index, and all ids beside it. -/
structure PA (w : World) (d1 d2 : Int) (F : Nat → Prop) (g n : Nat) (y : List EntT) (al : List IdP) (A : Option Addr) (m cp : Nat) (W : World) : Prop where
  hb : Below w.heap.size w W
  B : Blk W w.heap.size 26 #[.int .i64 d1, .int .i64 d2]
  X : IxAt W F g y n
  lo : ∀ k, F k → w.heap.size + 1 ≤ k
  O : W.ownsRow (w.heap.size + 1) 26 2 (.slice A m cp) m (flat2 al)
  no : ∀ k, (.slice A m cp : Value).ownBlock = some k → ¬ F k
  wf : ∀ x ∈ al, wfI x
  len : m = al.length ∧ al.length ≤ n ∧ n ≤ 60
  inv : AllInv y al
theorem PA.keep {w : World} {d1 d2 : Int} {F : Nat → Prop} {g n : Nat} {y : List EntT} {al : List IdP} {A : Option Addr} {m cp : Nat} {W W' : World} (h : PA w d1 d2 F g n y al A m cp W) (hb : Below W.heap.size W W') : PA w d1 d2 F g n y al A m cp W' :=
  ⟨below_call h.hb hb h.hb.size, h.B.keep hb, h.X.keep hb, h.lo, ownX_keep h.O hb, h.no, h.wf, h.len, h.inv⟩
theorem PA.ids {w : World} {d1 d2 : Int} {F : Nat → Prop} {g n : Nat} {y : List EntT} {al : List IdP} {A : Option Addr} {m cp : Nat} {W : World} (h : PA w d1 d2 F g n y al A m cp W) : IdsAt W A m al :=
  (ids_of_own h.O (by have := h.len; unfold maxLen; omega) h.wf).1
abbrev SAl (b p : Nat) (r nn k c q : Int) (y x : ByteArray) (v : Int) (wx : World) : Prop :=
  wx.cell? ⟨b, p + 1, none⟩ = some (.int .i64 r) ∧ wx.cell? ⟨b, p + 2, none⟩ = some (.int .i64 nn) ∧ wx.cell? ⟨b, p + 3, none⟩ = some (.int .i64 k) ∧ wx.cell? ⟨b, p + 4, none⟩ = some (.int .i64 c) ∧ wx.cell? ⟨b, p + 5, none⟩ = some (.int .i64 q) ∧ wx.cell? ⟨b, p + 6, none⟩ = some (.string y) ∧ wx.cell? ⟨b, p + 7, none⟩ = some (.string x) ∧ wx.cell? ⟨b, p + 8, none⟩ = some (.int .i64 v)
/-- What lies beside the index behind the loop. -/
structure QA (w : World) (d1 d2 : Int) (F : Nat → Prop) (g n : Nat) (y : List EntT) (al : List IdP) (A : Option Addr) (na : Nat) (W : World) : Prop where
  hb : Below w.heap.size w W
  B : Blk W w.heap.size 26 #[.int .i64 d1, .int .i64 d2]
  N : Blk W na 26 #[.int .i64 (-1), .int .i64 0]
  V : Blk W (na + 1) 24 #[.int .i64 6, .int .i64 0, .int .i64 0, .string ⟨#[]⟩, .string ⟨#[]⟩, .int .i64 0]
  X : IxAt W F g y n
  I : IdsAt W A al.length al
  lo : ∀ k, F k → w.heap.size + 1 ≤ k
  n1 : ¬ F na
  n2 : ¬ F (na + 1)
  nA : ∀ ad, A = some ad → ¬ F ad.block
theorem QA.keep {w : World} {d1 d2 : Int} {F : Nat → Prop} {g n : Nat} {y : List EntT} {al : List IdP} {A : Option Addr} {na : Nat} {W W' : World} (h : QA w d1 d2 F g n y al A na W) (hb : Below W.heap.size W W') : QA w d1 d2 F g n y al A na W' :=
  ⟨below_call h.hb hb h.hb.size, h.B.keep hb, h.N.keep hb, h.V.keep hb, h.X.keep hb, h.I.keep hb, h.lo, h.n1, h.n2, h.nA⟩
theorem IdsAt.turn {P : Nat → Prop} {w w' : World} {A : Option Addr} {m : Nat} {l : List IdP} (h : IdsAt w A m l) (t : Turn P w w') (hP : ∀ ad, A = some ad → ¬ P ad.block) : IdsAt w' A m l :=
  ⟨h.1, h.2.1, fun i x hi => by
    obtain ⟨w1, w2, b, o, e, h1, h2⟩ := h.2.2 i x hi
    exact ⟨w1, w2, b, o, e, t.cell h1 (show ¬ P b from hP _ e), t.cell h2 (show ¬ P b from hP _ e)⟩⟩
/-- .. behind a deed. -/
structure QB (w : World) (d1 d2 : Int) (F : Nat → Prop) (g n : Nat) (y : List EntT) (al : List IdP) (A : Option Addr) (na : Nat) (W : World) : Prop where
  hb : Below w.heap.size w W
  B : Blk W w.heap.size 26 #[.int .i64 d1, .int .i64 d2]
  N : Blk W na 26 #[.int .i64 (-1), .int .i64 0]
  V : Blk W (na + 1) 24 #[.int .i64 6, .int .i64 0, .int .i64 0, .string ⟨#[]⟩, .string ⟨#[]⟩, .int .i64 0]
  X : IxAt W F g y n
  I : IdsAt W A al.length al
theorem QB.keep {w : World} {d1 d2 : Int} {F : Nat → Prop} {g n : Nat} {y : List EntT} {al : List IdP} {A : Option Addr} {na : Nat} {W W' : World} (h : QB w d1 d2 F g n y al A na W) (hb : Below W.heap.size W W') : QB w d1 d2 F g n y al A na W' :=
  ⟨below_call h.hb hb h.hb.size, h.B.keep hb, h.N.keep hb, h.V.keep hb, h.X.keep hb, h.I.keep hb⟩
theorem QA.ixs {w : World} {d1 d2 : Int} {F F2 : Nat → Prop} {g n : Nat} {y y2 : List EntT} {al : List IdP} {A : Option Addr} {na : Nat} {W W' : World} (h : QA w d1 d2 F g n y al A na W) (X : IxAt W' F2 g y2 n) (t : Turn F W W') : QB w d1 d2 F2 g n y2 al A na W' :=
  ⟨Turn.below h.hb t (fun k hk => by have := h.lo k hk; omega) h.hb.size, t.blk h.B (fun hk => by have := h.lo _ hk; omega), t.blk h.N h.n1, t.blk h.V h.n2, X, h.I.turn t h.nA⟩
set_option maxHeartbeats 16000000 in
theorem indexall_walk (A : Option Addr) (m cap : Nat) (l : List XA) (d1 d2 : Int) (w : World) (h : XActsAt w A m l) (wd : wfI (d1, d2)) :
    Calls Try.prog 4 #[.slice A m cap, .agg #[.int .i64 d1, .int .i64 d2]] w (Gives w (.bool true)) := by
  have haw := fun W => awake17_any W
  have hgr := fun W (hb : Below w.heap.size w W) => great17_any A m cap l W (h.keep hb)
  have hnew := fun W => ixnewP_any W
  obtain ⟨j0, hj0, hjz0, hjzz, hjz2⟩ := idinfoX
  have H := Lib.hid h
  have Hwd := Lib.hid wd
  have hmm : m ≤ 9223372036854775807 := by have := h.2.1; unfold maxLen at this; omega
  have k2 := below_one (w := w) (.cells #[.int .i64 d1, .int .i64 d2] 26)
  have B2 := Blk.new w 26 #[.int .i64 d1, .int .i64 d2]
  have hgr2 := hgr _ k2
  clear h hgr wd
  go_enter Try.func4, Try.ntmps4
  go_upto_region 1 with fail
  go_cut [11] (fun s11 wx => ∃ q : Bool, s11 = .bool q ∧ (q = false → m ≤ 60) ∧ Below w.heap.size w wx ∧ Blk wx w.heap.size 26 #[.int .i64 d1, .int .i64 d2])
  case first =>
    go_wp2_with (go_at_call 7; (with_reducible refine hgr2.mono ?_); rintro e9 w3 ⟨q, rfl, hq, hb9⟩; have Hq := Lib.hid hq; have k3 := below_call k2 hb9 k2.size; have B3 := B2.keep hb9; clear hq hb9)
    go_meet
    exact ⟨_, rfl, Hq.out, k3, B3⟩
  case rest =>
    clear hgr2 k2 B2
    obtain ⟨q, rfl, hq, kx, Bx⟩ := hcut
    cases q
    · replace hq := hq rfl
      have hqi : (m : Int) ≤ 60 := by omega
      go_wp2_with (go_at_call 10; (with_reducible refine (hnew _).mono ?_); rintro e9 w5 ⟨g, F, rfl, X, hF, hb9⟩)
      have P0 : PA w d1 d2 F g 0 [] [] none 0 0 w5 := by
        have hB := Bx.lt
        exact ⟨below_call kx hb9 kx.size, Bx.keep hb9, X, fun k hk => (by have := hF k hk; omega), World.ownsRow_nil _ _ _ _, fun k hk => (by cases hk), fun e he => (by cases he), ⟨rfl, Nat.le_refl _, by omega⟩, AllInv.nil⟩
      clear X hF hb9 kx Bx hnew
      go_loopw [6, 7] (fun s6 s7 wr => ∃ (i : Nat) (F : Nat → Prop) (y : List EntT) (al : List IdP) (A2 : Option Addr) (c2 : Nat), i ≤ m ∧ s7 = .int .i64 i ∧ s6 = .slice A2 al.length c2 ∧ PA w d1 d2 F g i y al A2 al.length c2 wr) (fun _ s7 _ => m - (intOf s7).toNat)
      case atStart => exact ⟨0, F, [], [], none, 0, by omega, rfl, rfl, P0⟩
      case round =>
        clear P0
        obtain ⟨i, F1, y, al, A1, c1, hi, rfl, rfl, P⟩ := hrel
        by_cases hlt : i < m
        · obtain ⟨⟨d, ⟨⟨r, nn⟩, ⟨ck, cl, cq, ky, vl, rv⟩, sq⟩⟩, b, o, _, ok, rfl, hce⟩ := H.out.at_ hlt
          have i0 : (0 : Int) ≤ (i : Int) := by omega
          have i1 : (i : Int) < (m : Int) := by omega
          have Hok := Lib.hid ok.2
          have Hce := Lib.hid (show ∀ W, Below w.heap.size w W → SAl b (o + i * 10) r nn ck cl cq ky vl rv W from fun W hb =>
            ⟨cell_keep hb (hce 1 _ rfl), cell_keep hb (hce 2 _ rfl), cell_keep hb (hce 3 _ rfl), cell_keep hb (hce 4 _ rfl), cell_keep hb (hce 5 _ rfl), cell_keep hb (hce 6 _ rfl), cell_keep hb (hce 7 _ rfl), cell_keep hb (hce 8 _ rfl)⟩)
          clear hce ok
          have c1' := (Hce.out _ P.hb).1
          by_cases hneg : r < 0
          · go_wp2_with (go_at_call 9; (with_reducible refine (haw _).mono ?_); rintro e9 w8 ⟨rfl, hb9⟩)
            go_ret
            exact ⟨rfl, below_call P.hb hb9 P.hb.size⟩
          have hlen := P.len
          have hput := fun W (h : IxAt W F1 g y i) => ixput_any F1 g i y r nn ⟨ck, cl, cq, ky, vl, rv⟩ 1 W h Hok.out.1 Hok.out.2.1 (by decide) (by omega)
          simp only [CmdT.v] at hput
          go_upto_region 10 with fail
          replace P := P.keep (Below.refl _ _).drew
          (refine wp_region_held_drew (S := (SAl b (o + i * 10) r nn ck cl cq ky vl rv)) (by kernel_rfl) ?_ (fun hHeld => ?_); (· exact Hce.out _ P.hb))
          (refine take_op (i := 0) (v := ?_) rfl (by kernel_rfl) (by kernel_rfl) (by kernel_rfl) (fun _ _ _ h => h) (by rfl) ?_ hHeld ?_; rotate_left; (· (intro wS hSw; (try dsimp only at hSw); go_simp; first | done | with_reducible rfl)); simp only [Act.put, List.setIfInBounds_toArray, List.set_cons_zero, List.set_cons_succ]); (refine take_op (i := 1) (v := ?_) rfl (by kernel_rfl) (by kernel_rfl) (by kernel_rfl) (fun _ _ _ h => h) (by rfl) ?_ hHeld ?_; rotate_left; (· (intro wS hSw; (try dsimp only at hSw); go_simp; first | done | with_reducible rfl)); simp only [Act.put, List.setIfInBounds_toArray, List.set_cons_zero, List.set_cons_succ]); (refine take_op (i := 2) (v := ?_) rfl (by kernel_rfl) (by kernel_rfl) (by kernel_rfl) (fun _ _ _ h => h) (by rfl) ?_ hHeld ?_; rotate_left; (· (intro wS hSw; (try dsimp only at hSw); go_simp; first | done | with_reducible rfl)); simp only [Act.put, List.setIfInBounds_toArray, List.set_cons_zero, List.set_cons_succ]); (refine take_op (i := 3) (v := ?_) rfl (by kernel_rfl) (by kernel_rfl) (by kernel_rfl) (fun _ _ _ h => h) (by rfl) ?_ hHeld ?_; rotate_left; (· (intro wS hSw; (try dsimp only at hSw); go_simp; first | done | with_reducible rfl)); simp only [Act.put, List.setIfInBounds_toArray, List.set_cons_zero, List.set_cons_succ]); (refine take_op (i := 4) (v := ?_) rfl (by kernel_rfl) (by kernel_rfl) (by kernel_rfl) (fun _ _ _ h => h) (by rfl) ?_ hHeld ?_; rotate_left; (· (intro wS hSw; (try dsimp only at hSw); go_simp; first | done | with_reducible rfl)); simp only [Act.put, List.setIfInBounds_toArray, List.set_cons_zero, List.set_cons_succ]); (refine take_op (i := 5) (v := ?_) rfl (by kernel_rfl) (by kernel_rfl) (by kernel_rfl) (fun _ _ _ h => h) (by rfl) ?_ hHeld ?_; rotate_left; (· (intro wS hSw; (try dsimp only at hSw); go_simp; first | done | with_reducible rfl)); simp only [Act.put, List.setIfInBounds_toArray, List.set_cons_zero, List.set_cons_succ]); (refine take_op (i := 6) (v := ?_) rfl (by kernel_rfl) (by kernel_rfl) (by kernel_rfl) (fun _ _ _ h => h) (by rfl) ?_ hHeld ?_; rotate_left; (· (intro wS hSw; (try dsimp only at hSw); go_simp; first | done | with_reducible rfl)); simp only [Act.put, List.setIfInBounds_toArray, List.set_cons_zero, List.set_cons_succ]); (refine take_op (i := 7) (v := ?_) rfl (by kernel_rfl) (by kernel_rfl) (by kernel_rfl) (fun _ _ _ h => h) (by rfl) ?_ hHeld ?_; rotate_left; (· (intro wS hSw; (try dsimp only at hSw); go_simp; first | done | with_reducible rfl)); simp only [Act.put, List.setIfInBounds_toArray, List.set_cons_zero, List.set_cons_succ]); (refine take_op (i := 8) (v := ?_) rfl (by kernel_rfl) (by kernel_rfl) (by kernel_rfl) (fun _ _ _ h => h) (by rfl) ?_ hHeld ?_; rotate_left; (· (intro wS hSw; (try dsimp only at hSw); go_simp; first | done | with_reducible rfl)); simp only [Act.put, List.setIfInBounds_toArray, List.set_cons_zero, List.set_cons_succ]); (refine take_op (i := 9) (v := ?_) rfl (by kernel_rfl) (by kernel_rfl) (by kernel_rfl) (fun _ _ _ h => h) (by rfl) ?_ hHeld ?_; rotate_left; (· (intro wS hSw; (try dsimp only at hSw); go_simp; first | done | with_reducible rfl)); simp only [Act.put, List.setIfInBounds_toArray, List.set_cons_zero, List.set_cons_succ]); (refine take_op (i := 10) (v := ?_) rfl (by kernel_rfl) (by kernel_rfl) (by kernel_rfl) (fun _ _ _ h => h) (by rfl) ?_ hHeld ?_; rotate_left; (· (intro wS hSw; (try dsimp only at hSw); go_simp; first | done | with_reducible rfl)); simp only [Act.put, List.setIfInBounds_toArray, List.set_cons_zero, List.set_cons_succ])
          revert hHeld P
          generalize World.drew _ = wd
          intro P hHeld
          (refine call_op (i := 11) rfl (by kernel_rfl) (by rfl) (fun K hK => ?_); go_simp; (go_at_call 12; (with_reducible refine (hput _ P.X).mono ?_); rintro e9 w8 hd8; obtain rfl := hd8.1; obtain ⟨_, F2, X8, hF8, t8⟩ := hd8; have hb8 := Turn.below P.hb t8 (fun k hk => by have := P.lo k hk; omega) P.hb.size); refine hK.out _ _ (Hce.out _ hb8) (fun hHeld2 => ?_); clear hK K hHeld; have hHeld := hHeld2; clear hHeld2; (try simp only [Act.put, List.setIfInBounds_toArray, List.set_cons_zero, List.set_cons_succ]))
          (refine wpAnyH_done (by kernel_rfl) ?_ _)
          have P8 : PA w d1 d2 F2 g (i + 1) (putE y ⟨(r, nn), ⟨ck, cl, cq, ky, vl, rv⟩, 1⟩) al A1 al.length c1 w8 ∨ True := .inr trivial
          clear P8
          have B8 := t8.blk P.B (fun hk => by have := P.lo _ hk; omega)
          have O8 := ownX_turn P.O t8 (fun k hk => P.no k hk)
          have lo8 : ∀ k, F2 k → w.heap.size + 1 ≤ k := fun k hk => by
            rcases hF8 k hk with h1 | h1
            · exact P.lo k h1
            · have := P.B.lt; omega
          have I8 := (ids_of_own O8 (by unfold maxLen; omega) P.wf).1
          have Hinv := Lib.hid P.inv
          have Hwf := Lib.hid P.wf
          have HX8 := Lib.hid X8.lt
          have Hlo8 := Lib.hid lo8
          have hs8 := hb8.size
          have hB8 := B8.lt
          clear hHeld hput t8 hF8 lo8 O8 P c1'
          have cc := Hce.out _ hb8
          obtain ⟨q1, q2, q3, _⟩ := cc
          have hwo := without5_own A1 al.length c1 al r nn w8 I8 (by omega)
          go_upto_region 12 with (go_at_call 20; (with_reducible refine hwo.mono ?_); rintro e9 w9 ⟨A9, k9, c9, rfl, O9, hb9⟩)
          have hk9 : k9 = (fl (r, nn) al).length := by have h1 := O9.1; rw [flat2_length] at h1; omega
          subst hk9
          have hb9' := below_call hb8 hb9 hb8.size
          have X9 := X8.keep hb9
          have B9 := B8.keep hb9
          have n9 : ∀ k, (.slice A9 (fl (r, nn) al).length c9 : Value).ownBlock = some k → ¬ F2 k := fun k hk hf => by
            have h1 := (O9.lt k hk).1
            have h2 := HX8.out k hf
            omega
          have O9' := own_lowX O9 (show w.heap.size + 1 ≤ w8.heap.size + 1 by omega)
          have hl9 : (fl (r, nn) al).length ≤ al.length := List.length_filter_le _ _
          have Hinv9 := Lib.hid (Hinv.out.put ⟨(r, nn), ⟨ck, cl, cq, ky, vl, rv⟩, 1⟩ (by simp only; omega))
          have Hwf9 := Lib.hid (show ∀ x ∈ fl (r, nn) al, wfI x from fun x hx => Hwf.out x (fl_sub hx))
          have HX9 := Lib.hid X9.lt
          clear hwo hb8 hb9 X8 B8 I8 q1 q2 q3 O9 Hinv Hwf HX8
          obtain ⟨q1, q2, q3, _⟩ := Hce.out _ hb9'
          by_cases k0 : ck = 0
          · subst k0
            simp only [if_true, List.append_nil] at Hinv9
            have P9 : PA w d1 d2 F2 g (i + 1) (putE y ⟨(r, nn), ⟨0, cl, cq, ky, vl, rv⟩, 1⟩) (fl (r, nn) al) A9 (fl (r, nn) al).length c9 w9 := ⟨hb9', B9, X9, Hlo8.out, O9', n9, Hwf9.out, ⟨rfl, by omega, by omega⟩, Hinv9.out⟩
            clear hb9' B9 X9 O9' n9 q1 q2
            go_wp2_with fail
            go_roundw
            case rel => exact ⟨i + 1, F2, _, _, A9, c9, by omega, by go_num, rfl, P9⟩
            case measure => simp [intOf]; omega
          · have hk0 : (ck == 0) = false := by simp [k0]
            simp only [k0, if_false] at Hinv9
            have ka := below_one (w := w9) (.cells #[.int .i64 r, .int .i64 nn] 26)
            have hsrc := src_two' (w := w9) (r := r) (n := nn)
            have hownA := ownX_keep O9' ka
            have hs9 := hb9'.size
            have hB9 := B9.lt
            have Hn9 := Lib.hid n9
            have hl60 : (fl (r, nn) al).length ≤ 60 := by omega
            clear n9 O9'
            go_wp2_with ((at_builtin; go_loud (refine wpList_app _ rfl (.tmp 54) (.tmp 60) 42 rfl _ 26 j0 _ 2 16 Try.underlying42 hj0 hjz0 hjzz hjz2 rfl (by omega) _ _ _ rfl hownA _ _ _ _ rfl hsrc ?h63 ?hby ?hbase ?_); (case h63 => (unfold maxLen; first | omega | (simp; done) | (simp; omega))); (case hby => first | omega | (simp; done) | (simp; omega)); (case hbase => first | omega | (simp; done) | (simp; omega)); intro v5 w6 hownw6 hgroww6 hatw6 holdw6))
            obtain ⟨A6, c6, rfl, _, _⟩ := ownX_form hownw6
            have hlen6 : (fl (r, nn) al).length + 1 = (fl (r, nn) al ++ [(r, nn)]).length := by simp
            rw [hlen6] at hownw6 hatw6 ⊢
            have P6 : PA w d1 d2 F2 g (i + 1) (putE y ⟨(r, nn), ⟨ck, cl, cq, ky, vl, rv⟩, 1⟩) (fl (r, nn) al ++ [(r, nn)]) A6 (fl (r, nn) al ++ [(r, nn)]).length c6 w6 := by
              have tA := Turn.of_grown (F := fun k => (.slice A9 (fl (r, nn) al).length c9 : Value).ownBlock = some k) hgroww6 fun k hk => hk
              refine ⟨below_app (below_call hb9' ka hs9) hownA hgroww6 (by omega) (by simp; omega), blk_appX (B9.keep ka) hownA hgroww6 (by omega), (X9.keep ka).turn tA (fun k hk hb => Hn9.out k hb hk), Hlo8.out, ?_, fun k hk hf => ?_, fun x hx => ?_, ⟨rfl, ?_, by omega⟩, Hinv9.out⟩
              · rw [flat2_append]
                exact hownw6
              · rcases hatw6 with h1 | h1
                · exact Hn9.out k (h1.symm.trans hk) hf
                · rw [h1] at hk
                  injection hk with hk
                  have h2 := HX9.out k hf
                  simp only [World.size_alloc] at hk
                  omega
              · rcases List.mem_append.1 hx with hx | hx
                · exact Hwf9.out x hx
                · simp at hx; subst hx; exact Hok.out.1
              · rw [← hlen6]; omega
            clear hb9' B9 X9 hownA hownw6 hgroww6 hatw6 holdw6 hsrc ka q1 q2 hlen6
            go_roundw
            case rel => exact ⟨i + 1, F2, _, _, A6, c6, by omega, by go_num, rfl, P6⟩
            case measure => simp [intOf]; omega
        · have nk : ¬ (i : Int) < (m : Int) := by omega
          have hlen := P.len
          have hinv := P.inv
          have eD1 := all_deps hinv
          have eD2 := none_deps y
          have eD3 := drop_deps hinv (d1, d2)
          have hd1 := fun W (h : IxAt W F1 g y i) => ixdeps_any F1 g _ y wallC (-1) 0 W h wall_ok (by omega)
          have hd2 := fun W (h : IxAt W F1 g y i) => ixdeps_any F1 g _ y zeroC (-1) 0 W h zero_ok (by omega)
          have hd3 := fun F2 W (h : IxAt W F2 g (dropE y (d1, d2)) i) => ixdeps_any F2 g _ (dropE y (d1, d2)) wallC (-1) 0 W h wall_ok (by omega)
          unfold DepsP at hd1 hd2 hd3
          rw [eD1] at hd1
          rw [eD2] at hd2
          rw [eD3] at hd3
          simp only [wallC, zeroC, CmdT.v] at hd1 hd2 hd3
          have hdp := fun W (h : IxAt W F1 g y i) => ixdrop_any F1 g i y d1 d2 W h Hwd.out
          have hset := fun W (h : IdsAt W A1 al.length al) => set5_any A1 al.length c1 al W h (by omega)
          have hwo := fun A5 c5 W (h : IdsAt W A5 (idSet al).length (idSet al)) => without5_any A5 (idSet al).length c5 (idSet al) d1 d2 W h (by have := length_idSet al; omega)
          have heq := fun A5 m5 c5 A6 m6 c6 l5 W (h5 : IdsAt W A5 m5 l5) (h6 : IdsAt W A6 m6 l5) => equal5_any A5 A6 m5 c5 m6 c6 l5 l5 W h5 h6
          simp only [lseq_self] at heq
          generalize idSet al = sl at hd1 hd3 hset hwo
          generalize fl (d1, d2) sl = tl at hd3 hwo
          have Hd1 := Lib.hid hd1
          have Hd2 := Lib.hid hd2
          have Hd3 := Lib.hid hd3
          have Hdp := Lib.hid hdp
          have Hset := Lib.hid hset
          have Hwo := Lib.hid hwo
          have Heq := Lib.hid heq
          have Q : QA w d1 d2 F1 g i y al A1 wr.heap.size ((wr.alloc (.cells #[.int .i64 (-1), .int .i64 0] 26)).alloc (.cells #[.int .i64 6, .int .i64 0, .int .i64 0, .string ⟨#[]⟩, .string ⟨#[]⟩, .int .i64 0] 24)) := by
            have ka := below_one (w := wr) (.cells #[.int .i64 (-1), .int .i64 0] 26)
            have kb := below_one (w := wr.alloc (.cells #[.int .i64 (-1), .int .i64 0] 26)) (.cells #[.int .i64 6, .int .i64 0, .int .i64 0, .string ⟨#[]⟩, .string ⟨#[]⟩, .int .i64 0] 24)
            have hz := P.hb.size
            have hlt2 := P.X.lt
            refine ⟨below_call (below_call P.hb ka hz) kb (by simp; omega), (P.B.keep ka).keep kb, (Blk.new _ _ _).alloc _, blk_newAt (by simp), (P.X.keep ka).keep kb, (P.ids.keep ka).keep kb, P.lo, fun hf => ?_, fun hf => ?_, fun ad e => P.no _ (by rw [e]; rfl)⟩
            · have := hlt2 _ hf; omega
            · have := hlt2 _ hf; omega
          clear hd1 hd2 hd3 hdp hset hwo heq hinv eD1 eD2 eD3 hlen P
          go_upto_region 16 with fail
          revert Q
          generalize World.alloc _ _ = w6
          generalize wr.heap.size = na
          intro Q
          have bc := Q.B.cell
          have nc := Q.N.cell
          have wc := Q.V.cell
          go_upto_region 18 with (first | (go_at_call 16; (with_reducible refine (Hd1.out _ Q.X).mono ?_); rintro e9 w9 ⟨A5, c5, rfl, J5, hb9⟩; have J5h := Lib.hid J5; replace Q := Q.keep hb9; clear J5 hb9; clear bc nc wc; have bc := Q.B.cell; have nc := Q.N.cell; have wc := Q.V.cell) | (go_at_call 21; (with_reducible refine (Hset.out _ Q.I).mono ?_); rintro e9 w10 ⟨A6, c6, rfl, J6, hb9⟩; have J6h := Lib.hid J6; replace J5h := Lib.hid (J5h.out.keep hb9); replace Q := Q.keep hb9; clear J6 hb9; clear bc nc wc; have bc := Q.B.cell; have nc := Q.N.cell; have wc := Q.V.cell) | (go_at_call 15; (with_reducible refine (Heq.out _ _ _ _ _ _ _ _ J5h.out J6h.out).mono ?_); rintro e9 w11 ⟨rfl, hb9⟩; replace Q := Q.keep hb9; clear J5h J6h hb9; clear bc nc wc; have bc := Q.B.cell; have nc := Q.N.cell; have wc := Q.V.cell) | (go_at_call 16; (with_reducible refine (Hd2.out _ Q.X).mono ?_); rintro e9 w12 ⟨A7, c7, rfl, J7, hb9⟩; replace Q := Q.keep hb9; clear J7 hb9; clear bc nc wc; have bc := Q.B.cell; have nc := Q.N.cell; have wc := Q.V.cell))
          go_upto_region 19 with (go_at_call 13; (with_reducible refine (Hdp.out _ Q.X).mono ?_); rintro e9 w8 hd8; obtain rfl := hd8.1; obtain ⟨_, F2, X8, hF8, t8⟩ := hd8; replace Q := Q.ixs X8 t8; clear X8 hF8 t8; clear bc nc wc; have bc := Q.B.cell; have nc := Q.N.cell; have wc := Q.V.cell)
          clear Hd1 Hd2 Hdp bc nc wc
          replace Q := Q.keep (Below.refl _ _).drew
          (refine wp_region_held_drew (S := (SIM w.heap.size #[.int .i64 d1, .int .i64 d2] na #[.int .i64 (-1), .int .i64 0] (na + 1) #[.int .i64 6, .int .i64 0, .int .i64 0, .string ⟨#[]⟩, .string ⟨#[]⟩, .int .i64 0])) (by kernel_rfl) ?_ (fun hHeld => ?_); (· exact ⟨Q.B.cell, Q.N.cell, Q.V.cell⟩))
          (refine take_op (i := 0) (v := ?_) rfl (by kernel_rfl) (by kernel_rfl) (by kernel_rfl) (fun _ _ _ h => h) (by rfl) ?_ hHeld ?_; rotate_left; (· (intro wS hSw; (try dsimp only at hSw); go_simp; first | done | with_reducible rfl)); simp only [Act.put, List.setIfInBounds_toArray, List.set_cons_zero, List.set_cons_succ]); (refine take_op (i := 1) (v := ?_) rfl (by kernel_rfl) (by kernel_rfl) (by kernel_rfl) (fun _ _ _ h => h) (by rfl) ?_ hHeld ?_; rotate_left; (· (intro wS hSw; (try dsimp only at hSw); go_simp; first | done | with_reducible rfl)); simp only [Act.put, List.setIfInBounds_toArray, List.set_cons_zero, List.set_cons_succ]); (refine take_op (i := 2) (v := ?_) rfl (by kernel_rfl) (by kernel_rfl) (by kernel_rfl) (fun _ _ _ h => h) (by rfl) ?_ hHeld ?_; rotate_left; (· (intro wS hSw; (try dsimp only at hSw); go_simp; first | done | with_reducible rfl)); simp only [Act.put, List.setIfInBounds_toArray, List.set_cons_zero, List.set_cons_succ]); (refine take_op (i := 4) (v := ?_) rfl (by kernel_rfl) (by kernel_rfl) (by kernel_rfl) (fun _ _ _ h => h) (by rfl) ?_ hHeld ?_; rotate_left; (· (intro wS hSw; (try dsimp only at hSw); go_simp; first | done | with_reducible rfl)); simp only [Act.put, List.setIfInBounds_toArray, List.set_cons_zero, List.set_cons_succ]); (refine take_op (i := 6) (v := ?_) rfl (by kernel_rfl) (by kernel_rfl) (by kernel_rfl) (fun _ _ _ h => h) (by rfl) ?_ hHeld ?_; rotate_left; (· (intro wS hSw; (try dsimp only at hSw); go_simp; first | done | with_reducible rfl)); simp only [Act.put, List.setIfInBounds_toArray, List.set_cons_zero, List.set_cons_succ])
          (refine call_op (i := 3) rfl (by kernel_rfl) (by rfl) (fun K hK => ?_); go_simp; (go_at_call 16; (with_reducible refine (Hd3.out _ _ Q.X).mono ?_); rintro e9 w9 ⟨A5, c5, rfl, J5, hb9⟩; replace Q := Q.keep hb9; clear hb9); refine hK.out _ _ ⟨Q.B.cell, Q.N.cell, Q.V.cell⟩ (fun hHeld2 => ?_); clear hK K hHeld; have hHeld := hHeld2; clear hHeld2; (try simp only [Act.put, List.setIfInBounds_toArray, List.set_cons_zero, List.set_cons_succ]))
          (refine call_op (i := 5) rfl (by kernel_rfl) (by rfl) (fun K hK => ?_); go_simp; (go_at_call 21; (with_reducible refine (Hset.out _ Q.I).mono ?_); rintro e9 w10 ⟨A6, c6, rfl, J6, hb9⟩; replace Q := Q.keep hb9; replace J5 := J5.keep hb9; clear hb9); refine hK.out _ _ ⟨Q.B.cell, Q.N.cell, Q.V.cell⟩ (fun hHeld2 => ?_); clear hK K hHeld; have hHeld := hHeld2; clear hHeld2; (try simp only [Act.put, List.setIfInBounds_toArray, List.set_cons_zero, List.set_cons_succ]))
          (refine call_op (i := 7) rfl (by kernel_rfl) (by rfl) (fun K hK => ?_); go_simp; (go_at_call 20; (with_reducible refine (Hwo.out _ _ _ J6).mono ?_); rintro e9 w11 ⟨A7, k7, c7, rfl, J7, hb9⟩; replace Q := Q.keep hb9; replace J5 := J5.keep hb9; clear hb9 J6); refine hK.out _ _ ⟨Q.B.cell, Q.N.cell, Q.V.cell⟩ (fun hHeld2 => ?_); clear hK K hHeld; have hHeld := hHeld2; clear hHeld2; (try simp only [Act.put, List.setIfInBounds_toArray, List.set_cons_zero, List.set_cons_succ]))
          (refine call_op (i := 8) rfl (by kernel_rfl) (by rfl) (fun K hK => ?_); go_simp; (go_at_call 15; (with_reducible refine (Heq.out _ _ _ _ _ _ _ _ J5 J7).mono ?_); rintro e9 w12 ⟨rfl, hb9⟩; replace Q := Q.keep hb9; clear hb9); refine hK.out _ _ ⟨Q.B.cell, Q.N.cell, Q.V.cell⟩ (fun hHeld2 => ?_); clear hK K hHeld; have hHeld := hHeld2; clear hHeld2; (try simp only [Act.put, List.setIfInBounds_toArray, List.set_cons_zero, List.set_cons_succ]))
          clear J5 J7
          (refine take_op (i := 9) (v := ?_) rfl (by kernel_rfl) (by kernel_rfl) (by kernel_rfl) (fun _ _ _ h => h) (by rfl) ?_ hHeld ?_; rotate_left; (· (intro wS hSw; (try dsimp only at hSw); go_simp; first | done | with_reducible rfl)); simp only [Act.put, List.setIfInBounds_toArray, List.set_cons_zero, List.set_cons_succ])
          (refine call_op (i := 10) rfl (by kernel_rfl) (by rfl) (fun K hK => ?_); go_simp; (go_at_call 9; (with_reducible refine (haw _).mono ?_); rintro e9 w13 ⟨rfl, hb9⟩; replace Q := Q.keep hb9; clear hb9); refine hK.out _ _ ⟨Q.B.cell, Q.N.cell, Q.V.cell⟩ (fun hHeld2 => ?_); clear hK K hHeld; have hHeld := hHeld2; clear hHeld2; (try simp only [Act.put, List.setIfInBounds_toArray, List.set_cons_zero, List.set_cons_succ]))
          (refine take_op (i := 11) (v := ?_) rfl (by kernel_rfl) (by kernel_rfl) (by kernel_rfl) (fun _ _ _ h => h) (by rfl) ?_ hHeld ?_; rotate_left; (· (intro wS hSw; (try dsimp only at hSw); go_simp; first | done | with_reducible rfl)); simp only [Act.put, List.setIfInBounds_toArray, List.set_cons_zero, List.set_cons_succ]); (refine take_op (i := 12) (v := ?_) rfl (by kernel_rfl) (by kernel_rfl) (by kernel_rfl) (fun _ _ _ h => h) (by rfl) ?_ hHeld ?_; rotate_left; (· (intro wS hSw; (try dsimp only at hSw); go_simp; first | done | with_reducible rfl)); simp only [Act.put, List.setIfInBounds_toArray, List.set_cons_zero, List.set_cons_succ])
          (refine wpAnyH_done (by kernel_rfl) ?_ _)
          clear hHeld
          go_wp2_with fail
          go_ret
          exact ⟨rfl, Q.hb⟩
    · go_wp2_with (go_at_call 9; (with_reducible refine (haw _).mono ?_); rintro e9 w8 ⟨rfl, hb9⟩)
      go_ret
      exact ⟨rfl, below_call kx hb9 kx.size⟩
end Go.Proofs.Ytpdfbkkhmfnnjaa
