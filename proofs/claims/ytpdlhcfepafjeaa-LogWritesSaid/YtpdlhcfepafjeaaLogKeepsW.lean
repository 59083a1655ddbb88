/- The walk of the law LogKeeps. -/
import Derived.Test.YtpdlhcfepafjeaaLogOpen
import Derived.Test.YtpdlhcfepafjeaaLogKpPl
import Derived.Test.YtpdlhcfepafjeaaLogGreat
import Derived.Test.YtpdlhcfepafjeaaLogPartsW
import Derived.WalkKit
import Derived.WalkSpells
import Derived.WalkLawsBesides
import Derived.Deep.RegionHeld3
import Derived.Deep.DrawnRows
import Derived.Deep.DeepCutAuto
import Derived.Deep.DeepFit
import Derived.Lib.Hide
import Derived.BigQuiet
import Derived.Deep.QuietTactic
import Derived.Deep.RegionHeld3
namespace Go.Proofs.Ytpdlhcfepafjeaa
open Go.RowKit
set_option linter.unusedVariables false
set_option linter.unusedSimpArgs false
set_option maxRecDepth 20000
attribute [local go_sem ↓] Go.wp_at_zero Go.wp_at_succ
attribute [local go_sem] World.cell?_alloc_some frozen_alloc_some
open Go.Sort Go.Lib Go.Shelf Go.Maps

theorem wf_L : wfN nL := by unfold wfN maxLen; decide
/-- Texts that came in, beside a disk under way. -/
theorem kp_el {w W : World} {F : Nat → Prop} {g b : Nat} {d : DkT} (L : LS w W F g b d) {A : Option Addr} {n : Nat} {ls : List (List Nat)} (h : Texts w A n ls) {i : Nat} {p : List Nat} (hi : ls[i]? = some p) :
    ∃ ad B m c, A = some ad ∧ W.cell? (ad.add i) = some (.slice B m c) ∧ Safe W F B m p := by
  obtain ⟨ad, B, m, c, e, hc, hb⟩ := h.2.2 i p hi
  exact ⟨ad, B, m, c, e, (L.hb.cell (World.block_lt_of_cell? _ _ hc)).trans hc, L.safe hb⟩

/-- Slices' values that read as texts. -/
def RowT (W : World) (vs : List Value) (ls : List (List Nat)) : Prop := vs.length = ls.length ∧ ∀ (i : Nat) (l : List Nat), ls[i]? = some l → ∃ B m c, vs[i]? = some (.slice B m c) ∧ Bytes W B m l
theorem RowT.keep {W W' : World} {vs : List Value} {ls : List (List Nat)} (h : RowT W vs ls) (hb : Below W.heap.size W W') : RowT W' vs ls :=
  ⟨h.1, fun i l hi => have ⟨B, m, c, e, hy⟩ := h.2 i l hi; ⟨B, m, c, e, hy.keep hb⟩⟩
theorem RowT.append {W : World} {vs us : List Value} {ls ms : List (List Nat)} (h : RowT W vs ls) (k : RowT W us ms) : RowT W (vs ++ us) (ls ++ ms) :=
  ⟨by rw [List.length_append, List.length_append, h.1, k.1], fun i l hi => by
    by_cases hlt : i < ls.length
    · rw [List.getElem?_append_left hlt] at hi
      obtain ⟨B, m, c, e, hy⟩ := h.2 i l hi
      exact ⟨B, m, c, by rw [List.getElem?_append_left (by rw [h.1]; exact hlt)]; exact e, hy⟩
    · rw [List.getElem?_append_right (by omega)] at hi
      obtain ⟨B, m, c, e, hy⟩ := k.2 _ l hi
      exact ⟨B, m, c, by rw [List.getElem?_append_right (by rw [h.1]; omega), h.1]; exact e, hy⟩⟩
theorem texts_src {W : World} {A : Option Addr} {n : Nat} {ls : List (List Nat)} (h : Texts W A n ls) : ∃ vs, Src W 1 A n vs ∧ RowT W vs ls := by
  have hn := h.1
  have hg : ∀ i, i < n → ∃ ad B m c, A = some ad ∧ W.cell? (ad.add i) = some (.slice B m c) ∧ ∀ l, ls[i]? = some l → Bytes W B m l := fun i hi => by
    have k : ls[i]? = some (ls[i]'(by omega)) := List.getElem?_eq_getElem _
    obtain ⟨ad, B, m, c, e, hc, hy⟩ := h.2.2 i _ k
    exact ⟨ad, B, m, c, e, hc, fun l hl => by rw [k] at hl; injection hl with hl; rw [← hl]; exact hy⟩
  refine ⟨(List.range n).map fun j => (A.bind fun ad => W.cell? (ad.add j)).getD undef, ⟨by simp, fun j u hj => ?_, fun u hu => ?_⟩, by simp [hn], fun i l hi => ?_⟩
  · have hjn : j < n := by have := (List.getElem?_eq_some_iff.1 hj).1; simpa using this
    obtain ⟨ad, B, m, c, e, hc, _⟩ := hg j hjn
    simp only [List.getElem?_map, List.getElem?_range hjn, Option.map_some, Option.some.injEq] at hj
    subst e
    simp only [Option.bind_some, hc, Option.getD_some] at hj
    subst hj
    exact ⟨ad, rfl, hc⟩
  · obtain ⟨j, hj, rfl⟩ := List.mem_map.1 hu
    obtain ⟨ad, B, m, c, e, hc, _⟩ := hg j (List.mem_range.1 hj)
    subst e
    simp only [Option.bind_some, hc, Option.getD_some]
    rfl
  · have hin : i < n := by rw [hn]; exact (List.getElem?_eq_some_iff.1 hi).1
    obtain ⟨ad, B, m, c, e, hc, hy⟩ := hg i hin
    subst e
    refine ⟨B, m, c, ?_, hy l hi⟩
    simp [hin, hc]
theorem texts_own {W : World} {b : Nat} {A : Option Addr} {n c : Nat} {vs : List Value} {ls : List (List Nat)} (hr : W.ownsRow b 22 1 (.slice A n c) ls.length vs) (hv : RowT W vs ls) : Texts W A n ls := by
  rcases hr.2 with ⟨e, e0⟩ | ⟨g, cap, cur, e, _, hgb, hnc, hcm, hcs, htk⟩
  · injection e with e1 e2 e3
    subst e1 e2 e3
    have : ls = [] := List.length_eq_zero_iff.1 e0
    subst this
    exact texts_nil
  · injection e with e1 e2 e3
    subst e1 e3
    refine ⟨e2, by omega, fun i l hi => ?_⟩
    obtain ⟨B, m, c', hu, ho⟩ := hv.2 i l hi
    refine ⟨_, B, m, c', rfl, ?_, ho⟩
    have hadd : (⟨g, 0, none⟩ : Addr).add i = ⟨g, i, none⟩ := by unfold Addr.add; split <;> simp_all
    rw [hadd, cell_of_row W g i cur _ (0, 0) hgb]
    rw [← htk, List.getElem?_take] at hu
    split at hu
    · simpa using hu
    · cases hu
theorem Texts.cutTo {W : World} {A : Option Addr} {n : Nat} {ls : List (List Nat)} (h : Texts W A n ls) {k : Nat} (hk : k ≤ n) : Texts W A k (ls.take k) :=
  ⟨by rw [List.length_take]; have := h.1; omega, by have := h.2.1; omega, fun i l hi => by
    rw [List.getElem?_take] at hi
    split at hi
    · exact h.2.2 i l hi
    · cases hi⟩
theorem src_keep {w w' : World} {size : Nat} {A : Option Addr} {m : Nat} {news : List Value} (h : Src w size A m news) (hb : Below w.heap.size w w') : Src w' size A m news :=
  ⟨h.1, fun j u hj => by
    obtain ⟨ad, e, hc⟩ := h.2.1 j u hj
    exact ⟨ad, e, cell_keep hb hc⟩, h.2.2⟩
set_option maxHeartbeats 4000000 in
theorem logkeeps_walk (A : Option Addr) (n c : Nat) (B : Option Addr) (m cb : Nat) (la lb : List (List Nat)) (fuse keep : Int) (w : World) (ha : Texts w A n la) (hb : Texts w B m lb) (hcb : m ≤ cb) (hf : (Lit.int .u8 fuse).wf = true) (hk : (Lit.int .i64 keep).wf = true) :
    Calls Try.prog 12 #[.slice A n c, .slice B m cb, .int .u8 fuse, .int .i64 keep] w (Gives w (.bool true)) := by
  have hAw : ∀ W, Calls Try.prog 14 #[] W (Gives W (.bool true)) := awake13
  have ga : ∀ W, Below w.heap.size w W → Calls Try.prog 47 #[.slice A n c, .int .i64 10, .int .i64 100] W (Gives W (.bool (greatL la))) := fun W h => great13_any A n c la W (ha.keep h)
  have gb : ∀ W, Below w.heap.size w W → Calls Try.prog 47 #[.slice B m cb, .int .i64 10, .int .i64 100] W (Gives W (.bool (greatL lb))) := fun W h => great13_any B m cb lb W (hb.keep h)
  by_cases h1 : greatL la = true
  · rw [h1] at ga
    clear ha hb gb
    go_enter Try.func12, Try.ntmps12
    go_wp2_with (first
      | (go_at_call 47; refine (ga _ (Below.refl _ _)).mono ?_; rintro e w1 ⟨rfl, hb1⟩; have hz1 := hb1.size)
      | (go_at_call 14; refine (hAw _).mono ?_; rintro e w2 ⟨rfl, hb2⟩; have hz2 := hb2.size))
    go_ret
    exact ⟨rfl, by ((repeat' first | with_reducible exact Below.refl _ _ | with_reducible assumption | with_reducible refine Below.alloc ?_ ?_ _ | with_reducible refine Below.setCell ?_ ?_ _ | with_reducible apply Below.drew | with_reducible apply below_drewN | with_reducible refine below_call ?_ (by with_reducible assumption) ?_) <;> (first | omega | (simp; done) | (simp; omega) | (simp at *; omega)))⟩
  have h1f : greatL la = false := by simpa using h1
  rw [h1f] at ga
  by_cases h2 : greatL lb = true
  · rw [h2] at gb
    clear ha hb
    go_enter Try.func12, Try.ntmps12
    go_wp2_with (first
      | (go_at_call 47; refine (ga _ (Below.refl _ _)).mono ?_; clear ga; rintro e w1 ⟨rfl, hb1⟩; have hz1 := hb1.size)
      | (go_at_call 47; refine (gb _ hb1).mono ?_; rintro e w2 ⟨rfl, hb2⟩; have hz2 := hb2.size)
      | (go_at_call 14; refine (hAw _).mono ?_; rintro e w3 ⟨rfl, hb3⟩; have hz3 := hb3.size))
    go_ret
    exact ⟨rfl, by ((repeat' first | with_reducible exact Below.refl _ _ | with_reducible assumption | with_reducible refine Below.alloc ?_ ?_ _ | with_reducible refine Below.setCell ?_ ?_ _ | with_reducible apply Below.drew | with_reducible apply below_drewN | with_reducible refine below_call ?_ (by with_reducible assumption) ?_) <;> (first | omega | (simp; done) | (simp; omega) | (simp at *; omega)))⟩
  have h2f : greatL lb = false := by simpa using h2
  rw [h2f] at gb
  obtain ⟨al, ax⟩ : la.length ≤ 10 ∧ ∀ x ∈ la, x.length ≤ 100 := by unfold greatL at h1f; simpa using h1f
  obtain ⟨bl, bx⟩ : lb.length ≤ 10 ∧ ∀ x ∈ lb, x.length ≤ 100 := by unfold greatL at h2f; simpa using h2f
  have hna := ha.1
  have hnb := hb.1
  subst hna
  subst hnb
  have HA := Lib.hid ha
  have HB := Lib.hid hb
  have AX := Lib.hid ax
  have BX := Lib.hid bx
  clear ha hb h1 h2 h1f h2f ax bx
  go_enter Try.func12, Try.ntmps12
  go_upto_region 4 with (first
    | (go_at_call 47; refine (ga _ (Below.refl _ _)).mono ?_; clear ga; rintro e w1 ⟨rfl, hb1⟩; have hz1 := hb1.size)
    | (go_at_call 47; refine (gb _ hb1).mono ?_; clear gb; rintro e w2 ⟨rfl, hb2⟩; have hz2 := hb2.size)
    | (go_at_call 30; (with_reducible refine (dknew_any 10000 _ rfl (by decide)).mono ?_); rintro e w3 ⟨rfl, D3, hb3⟩))
  obtain ⟨F3, L3⟩ := LS.new D3 hb3
  have hb02 : Below w.heap.size w w2 := hb1.trans (hb2.mono hz1)
  have HA2 := Lib.hid (HA.out.keep hb02)
  have HB2 := Lib.hid (HB.out.keep hb02)
  have HB0 := Lib.hid hb02
  clear D3 hb3 hb1 hb2 hz1 hz2 hb02 HA HB
  have p1 : Calls Try.prog 48 #[.pointer (some ⟨w2.heap.size + 1, 0, none⟩), .string ⟨⟨nL⟩⟩] w3 (Opens w2 w3 F3 (w2.heap.size + 1) w2.heap.size nL (scanL []) ⟨glF 0 (la.take 0), 10000, -1, false⟩) :=
    logopen_any L3 wf_L (r := none) (e0 := 8) rfl (.inr rfl) (l := []) rfl (by simp) (by rw [if_neg (by simp [scanW_nil])]; rfl)
  go_wp2_with (go_at_call 48; (with_reducible refine p1.mono ?_); clear p1 L3; rintro e w4 ⟨gl, v4, F4, rfl, L4, -, hl4, -, -, -⟩)
  go_loopw [13] (fun s wr => ∃ (i : Nat) (F' : Nat → Prop), i ≤ la.length ∧ s = .int .i64 i ∧ LS w2 wr F' (w2.heap.size + 1) w2.heap.size ⟨glF 0 (la.take i), 10000, -1, false⟩ ∧ LogB wr F' gl (w2.heap.size + 1) nL) (fun s _ => la.length - (intOf s).toNat)
  case atStart => exact ⟨0, F4, by omega, rfl, L4, hl4⟩
  case round =>
    obtain ⟨i, F', hi, rfl, L, hl⟩ := hrel
    by_cases hlt : i < la.length
    · have k1 : la[i]? = some la[i] := List.getElem?_eq_getElem hlt
      obtain ⟨ad, B1, m1, c1, rfl, hcell, hsafe⟩ := kp_el L HA2.out k1
      have hp100 := AX.out _ (List.mem_of_getElem? k1)
      have padd := logadd_any L hl wf_L B1 m1 c1 la[i] hsafe (by have := hsafe.by_.1; omega) (kp_add la i la[i] k1 AX.out al)
      have HL := Lib.hid hl
      have i1 : (i : Int) < (la.length : Int) := by omega
      clear L hsafe k1 hl hp100
      go_wp2_with (go_at_call 49; (with_reducible refine padd.mono ?_); clear padd; rintro e w5 ⟨rfl, F5, L5, h5, T5⟩)
      go_roundw
      case rel => exact ⟨i + 1, F5, by omega, by go_num, L5, HL.out.turn T5 h5⟩
      case measure => simp [intOf]; omega
    · obtain rfl : i = la.length := by omega
      rw [List.take_length] at L
      obtain ⟨vf, hvf, hv0⟩ := kp_flush la
      have pfl := logflush_any L hl wf_L hvf
      rw [hv0] at pfl
      have HL := Lib.hid hl
      clear L hvf hv0 hl
      obtain ⟨s0, s1⟩ := wf_u8 hf
      obtain ⟨sn, rfl⟩ : ∃ sn : Nat, fuse = (sn : Int) := ⟨fuse.toNat, by omega⟩
      have hs3 : ((sn : Int)).tmod 12 = ((sn % 12 : Nat) : Int) := by rw [Int.tmod_eq_emod_of_nonneg (by omega)]; omega
      obtain ⟨f, hf12⟩ : ∃ f : Nat, f = sn % 12 := ⟨_, rfl⟩
      rw [← hf12] at hs3
      have hwf : (Lit.int .i64 (f : Int)).wf = true := by simp [Lit.wf, IntKind.min, IntKind.max, IntKind.signed, IntKind.bits]; omega
      clear hf12
      go_wp2_with (first
        | (go_at_call 50; (with_reducible refine pfl.mono ?_); clear pfl; rintro e w6 ⟨rfl, F6, L6, h6, T6⟩; have pfu := L6.fuse (f : Int) hwf; have hl6 := Lib.hid (HL.out.turn T6 h6); clear L6 T6 h6)
        | (go_at_call 33; (with_reducible refine pfu.mono ?_); clear pfu; rintro e w7 ⟨rfl, F7, L7, h7, T7⟩; have hl7 := hl6.out.turn T7 h7; clear T7 h7))
      have hI0 := kp_start la lb (f : Int)
      go_loopw [14] (fun s wr => ∃ (i : Nat) (F' : Nat → Prop) (d : DkT), i ≤ lb.length ∧ s = .int .i64 i ∧ LS w2 wr F' (w2.heap.size + 1) w2.heap.size d ∧ LogB wr F' gl (w2.heap.size + 1) nL ∧ KpI la lb i d) (fun s _ => lb.length - (intOf s).toNat)
      case atStart => exact ⟨0, F7, _, by omega, rfl, L7, hl7, hI0⟩
      case round =>
        obtain ⟨i, F', d, hi, rfl, L, hl, hI⟩ := hrel
        by_cases hlt : i < lb.length
        · have k1 : lb[i]? = some lb[i] := List.getElem?_eq_getElem hlt
          obtain ⟨ad, B1, m1, c1, rfl, hcell, hsafe⟩ := kp_el L HB2.out k1
          have hp100 := BX.out _ (List.mem_of_getElem? k1)
          have hst := kp_step la lb i d lb[i] k1 AX.out BX.out al bl hI
          obtain ⟨v, d', hvd⟩ : ∃ v d', deedD d (fun l => appC d.room l nL (frm lb[i])) = (v, d') := ⟨_, _, rfl⟩
          rw [hvd] at hst
          have padd := logadd_any L hl wf_L B1 m1 c1 lb[i] hsafe (by have := hsafe.by_.1; omega) hvd
          have HL := Lib.hid hl
          have HS := Lib.hid hst
          have i1 : (i : Int) < (lb.length : Int) := by omega
          clear L hsafe k1 hl hp100 hvd hst hI
          go_wp2_with (go_at_call 49; (with_reducible refine padd.mono ?_); clear padd; rintro e w8 ⟨rfl, F8, L8, h8, T8⟩)
          go_roundw
          case rel => exact ⟨i + 1, F8, d', by omega, by go_num, L8, HL.out.turn T8 h8, HS.out⟩
          case measure => simp [intOf]; omega
        · obtain rfl : i = lb.length := by omega
          obtain ⟨r, e0, l, d2, q1, q2, q3, q4, q5, i, q6, q7⟩ := kp_boot la lb d keep AX.out BX.out al bl hI
          have L9 := L.keep (below_one (.cells #[.int .i64 keep] 3))
          have pbt := L9.boot _ 1 1 [keep] (keeps_made keep hk) (Nat.le_refl _) (L.made (Nat.le_refl _)) rfl
          have pop := Lib.hid (fun W F' (LL : LS w2 W F' (w2.heap.size + 1) w2.heap.size (bootD d [keep])) => logopen_any LL wf_L q1 q2 q3 q4 q5)
          have Q7 := Lib.hid q7
          clear L L9 hl hI q1 q2 q3 q4 q5 q7 hlt hi
          go_upto_region 20 with (go_at_call 34; (with_reducible refine pbt.mono ?_); clear pbt; rintro e w9 ⟨rfl, F9, L9, -, -⟩)
          have pop2 := pop.out _ _ L9
          rw [Q7.out] at pop2
          have HZ := Lib.hid L9.hb
          clear pop L9 Q7
          go_upto_region 21 with (go_at_call 48; (with_reducible refine pop2.mono ?_); clear pop2; rintro e w10 ⟨gl2, v10, F10, rfl, L10, hrow, -, -, -, T10⟩; have R10 := Lib.hid hrow; clear hrow)
          obtain ⟨vs, hr10, hv10⟩ := R10.out
          obtain ⟨A5, c5, rfl⟩ := rows_form hr10
          have t5 := rows_texts hr10 hv10
          have hel : (la ++ lb.take i).length = la.length + i := by rw [List.length_append, List.length_take]; omega
          rw [hel] at t5 ⊢
          have T5 := Lib.hid t5
          obtain ⟨va, sva, rva⟩ := texts_src (HA2.out.keep L10.hb)
          obtain ⟨vb, svb, rvb⟩ := texts_src ((HB2.out.keep L10.hb).cutTo q6)
          have hBw : Below w.heap.size w w10 := HB0.out.trans (L10.hb.mono HB0.out.size)
          have HBW := Lib.hid hBw
          have n1 : ¬ ((la.length : Int) + (i : Int) < (la.length : Int)) := by omega
          have n2 : ¬ ((la.length : Int) + (lb.length : Int) < (la.length : Int) + (i : Int)) := by omega
          have n3 : IntKind.i64.wrap ((la.length : Int) + (lb.length : Int)) = (la.length : Int) + (lb.length : Int) := IntWalk.i64_in _ (by omega)
          have n4 : IntKind.i64.wrap (i : Int) = (i : Int) := IntWalk.i64_in _ (by omega)
          have n5 : IntKind.i64.wrap ((la.length : Int) + (i : Int) - (la.length : Int)) = (i : Int) := by rw [show (la.length : Int) + (i : Int) - (la.length : Int) = (i : Int) by omega]; exact n4
          have n6 : i ≤ cb := by omega
          have n7 : (0 : Int) ≤ (i : Int) := by omega
          clear hr10 hv10 t5 T10 L10 hBw HB0 HZ R10
          have HEL := Lib.hid hel
          clear hel
          obtain ⟨j0, hj, hy0, hy1, hy2⟩ := info_parts slice_info
          go_upto_region 23 with fail
          (refine wp_region_held_drew (S := (fun _ => True)) (by kernel_rfl) ?_ (fun hHeld => ?_); (· exact trivial))
          have kd : Below w10.heap.size w10 w10.drew := (Below.refl _ _).drew
          revert hHeld kd
          generalize World.drew _ = wd
          intro hHeld kd
          have hzd := kd.size
          have srcA : Src (wd.alloc (.cells #[] 22)) 1 A la.length va := src_keep sva (kd.trans ((below_one _).mono hzd))
          (refine take_op (i := 0) (v := ?_) rfl (by kernel_rfl) (by kernel_rfl) (by kernel_rfl) (fun _ _ _ h => h) (by rfl) ?_ hHeld ?_; rotate_left; (· (intro wS hSw; (try dsimp only at hSw); go_simp; first | done | with_reducible rfl)); simp only [Act.put, List.setIfInBounds_toArray, List.set_cons_zero, List.set_cons_succ]); (refine take_op (i := 2) (v := ?_) rfl (by kernel_rfl) (by kernel_rfl) (by kernel_rfl) (fun _ _ _ h => h) (by rfl) ?_ hHeld ?_; rotate_left; (· (intro wS hSw; (try dsimp only at hSw); go_simp; first | done | with_reducible rfl)); simp only [Act.put, List.setIfInBounds_toArray, List.set_cons_zero, List.set_cons_succ]); (refine take_op (i := 4) (v := ?_) rfl (by kernel_rfl) (by kernel_rfl) (by kernel_rfl) (fun _ _ _ h => h) (by rfl) ?_ hHeld ?_; rotate_left; (· (intro wS hSw; (try dsimp only at hSw); go_simp; first | done | with_reducible rfl)); simp only [Act.put, List.setIfInBounds_toArray, List.set_cons_zero, List.set_cons_succ]); (refine take_op (i := 5) (v := ?_) rfl (by kernel_rfl) (by kernel_rfl) (by kernel_rfl) (fun _ _ _ h => h) (by rfl) ?_ hHeld ?_; rotate_left; (· (intro wS hSw; (try dsimp only at hSw); go_simp; first | done | with_reducible rfl)); simp only [Act.put, List.setIfInBounds_toArray, List.set_cons_zero, List.set_cons_succ]); (refine take_op (i := 6) (v := ?_) rfl (by kernel_rfl) (by kernel_rfl) (by kernel_rfl) (fun _ _ _ h => h) (by rfl) ?_ hHeld ?_; rotate_left; (· (intro wS hSw; (try dsimp only at hSw); go_simp; first | done | with_reducible rfl)); simp only [Act.put, List.setIfInBounds_toArray, List.set_cons_zero, List.set_cons_succ]); (refine take_op (i := 7) (v := ?_) rfl (by kernel_rfl) (by kernel_rfl) (by kernel_rfl) (fun _ _ _ h => h) (by rfl) ?_ hHeld ?_; rotate_left; (· (intro wS hSw; (try dsimp only at hSw); go_simp; first | done | with_reducible rfl)); simp only [Act.put, List.setIfInBounds_toArray, List.set_cons_zero, List.set_cons_succ]); (refine take_op (i := 8) (v := ?_) rfl (by kernel_rfl) (by kernel_rfl) (by kernel_rfl) (fun _ _ _ h => h) (by rfl) ?_ hHeld ?_; rotate_left; (· (intro wS hSw; (try dsimp only at hSw); go_simp; first | done | with_reducible rfl)); simp only [Act.put, List.setIfInBounds_toArray, List.set_cons_zero, List.set_cons_succ]); (refine take_op (i := 9) (v := ?_) rfl (by kernel_rfl) (by kernel_rfl) (by kernel_rfl) (fun _ _ _ h => h) (by rfl) ?_ hHeld ?_; rotate_left; (· (intro wS hSw; (try dsimp only at hSw); go_simp; first | done | with_reducible rfl)); simp only [Act.put, List.setIfInBounds_toArray, List.set_cons_zero, List.set_cons_succ]); (refine take_op (i := 10) (v := ?_) rfl (by kernel_rfl) (by kernel_rfl) (by kernel_rfl) (fun _ _ _ h => h) (by rfl) ?_ hHeld ?_; rotate_left; (· (intro wS hSw; (try dsimp only at hSw); go_simp; first | done | with_reducible rfl)); simp only [Act.put, List.setIfInBounds_toArray, List.set_cons_zero, List.set_cons_succ])
          (refine call_op (i := 1) rfl (by kernel_rfl) (by rfl) (fun K hK => ?_); go_simp; skip; refine hK.out _ _ trivial (fun hHeld2 => ?_); clear hK K hHeld; have hHeld := hHeld2; clear hHeld2; (try simp only [Act.put, List.setIfInBounds_toArray, List.set_cons_zero, List.set_cons_succ]))
          (refine call_op (i := 3) rfl (by kernel_rfl) (by rfl) (fun K hK => ?_); (refine wp_app _ (.tmp 97) (.tmp 98) 24 rfl wd.heap.size 22 j0 _ 1 24 Try.underlying24 hj hy0 hy1 hy2 rfl (by omega) _ 0 [] rfl rows_made A la.length c va rfl srcA (by unfold maxLen; omega) (by omega) (by simp) ?_; intro v11 w11 hown11 hgrow11 hat11 hold11); refine hK.out _ _ trivial (fun hHeld2 => ?_); clear hK K hHeld; have hHeld := hHeld2; clear hHeld2; (try simp only [Act.put, List.setIfInBounds_toArray, List.set_cons_zero, List.set_cons_succ]))
          have r11 : w11.ownsRow wd.heap.size 22 1 v11 la.length va := by simpa using hown11
          have hb11 : Below wd.heap.size wd w11 := below_app (below_one _) rows_made hgrow11 (Nat.le_refl _) (by simp)
          have srcB : Src w11 1 B i vb := src_keep svb (kd.trans (hb11.mono hzd))
          have hz11 := hb11.size
          clear hown11 hat11 hold11 hgrow11 srcA
          (refine call_op (i := 11) rfl (by kernel_rfl) (by rfl) (fun K hK => ?_); (refine wp_app _ (.tmp 99) (.tmp 106) 24 rfl wd.heap.size 22 j0 _ 1 24 Try.underlying24 hj hy0 hy1 hy2 rfl (by omega) v11 la.length va rfl r11 B i cb vb rfl srcB (by unfold maxLen; omega) (by omega) hz11 ?_; intro v12 w12 hown12 hgrow12 hat12 hold12; obtain ⟨A12, c12, rfl⟩ := rows_form hown12); refine hK.out _ _ trivial (fun hHeld2 => ?_); clear hK K hHeld; have hHeld := hHeld2; clear hHeld2; (try simp only [Act.put, List.setIfInBounds_toArray, List.set_cons_zero, List.set_cons_succ]))
          have hb12 : Below wd.heap.size wd w12 := below_app hb11 r11 hgrow12 (Nat.le_refl _) hz11
          have k12 : Below w10.heap.size w10 w12 := kd.trans (hb12.mono hzd)
          have t12 : Texts w12 A12 (la.length + i) (la ++ lb.take i) := texts_own (by rw [HEL.out]; exact hown12) ((rva.append rvb).keep k12)
          have hz12 := k12.size
          have sm := sameall_any A5 A12 (la.length + i) c5 (la.length + i) c12 _ _ w12 (T5.out.keep k12) t12
          rw [decide_eq_true rfl] at sm
          clear hown12 hat12 hold12 hgrow12 srcB r11 t12 rva rvb sva svb
          (refine call_op (i := 12) rfl (by kernel_rfl) (by rfl) (fun K hK => ?_); go_simp; (go_at_call 16; refine sm.mono ?_; rintro e w13 ⟨rfl, hb13⟩; have hz13 := hb13.size); refine hK.out _ _ trivial (fun hHeld2 => ?_); clear hK K hHeld; have hHeld := hHeld2; clear hHeld2; (try simp only [Act.put, List.setIfInBounds_toArray, List.set_cons_zero, List.set_cons_succ]))
          (refine take_op (i := 13) (v := ?_) rfl (by kernel_rfl) (by kernel_rfl) (by kernel_rfl) (fun _ _ _ h => h) (by rfl) ?_ hHeld ?_; rotate_left; (· (intro wS hSw; (try dsimp only at hSw); go_simp; first | done | with_reducible rfl)); simp only [Act.put, List.setIfInBounds_toArray, List.set_cons_zero, List.set_cons_succ])
          (refine call_op (i := 14) rfl (by kernel_rfl) (by rfl) (fun K hK => ?_); go_simp; (go_at_call 14; refine (hAw _).mono ?_; rintro e w14 ⟨rfl, hb14⟩; have hz14 := hb14.size); refine hK.out _ _ trivial (fun hHeld2 => ?_); clear hK K hHeld; have hHeld := hHeld2; clear hHeld2; (try simp only [Act.put, List.setIfInBounds_toArray, List.set_cons_zero, List.set_cons_succ]))
          (refine take_op (i := 15) (v := ?_) rfl (by kernel_rfl) (by kernel_rfl) (by kernel_rfl) (fun _ _ _ h => h) (by rfl) ?_ hHeld ?_; rotate_left; (· (intro wS hSw; (try dsimp only at hSw); go_simp; first | done | with_reducible rfl)); simp only [Act.put, List.setIfInBounds_toArray, List.set_cons_zero, List.set_cons_succ]); (refine take_op (i := 16) (v := ?_) rfl (by kernel_rfl) (by kernel_rfl) (by kernel_rfl) (fun _ _ _ h => h) (by rfl) ?_ hHeld ?_; rotate_left; (· (intro wS hSw; (try dsimp only at hSw); go_simp; first | done | with_reducible rfl)); simp only [Act.put, List.setIfInBounds_toArray, List.set_cons_zero, List.set_cons_succ])
          (refine wpAnyH_done (by kernel_rfl) ?_ _)
          have hfin : Below w10.heap.size w10 w14 := (k12.trans (hb13.mono hz12)).trans (hb14.mono (by omega))
          have HF := Lib.hid (HBW.out.trans (hfin.mono HBW.out.size))
          clear hHeld hb11 hb12 hb13 hb14 hfin k12 kd sm
          go_wp2_with fail
          go_ret
          exact ⟨rfl, HF.out⟩
end Go.Proofs.Ytpdlhcfepafjeaa
