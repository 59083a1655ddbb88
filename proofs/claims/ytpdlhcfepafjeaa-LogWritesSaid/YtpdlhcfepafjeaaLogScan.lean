/- log.Scan. -/
import Derived.Test.YtpdlhcfepafjeaaLogSeq
import Derived.Test.YtpdlhcfepafjeaaDiskL
import Derived.WalkKit
import Derived.WalkSpells
import Derived.WalkLawsBesides
import Derived.Deep.RegionHeld3
import Derived.Deep.DrawnRows
import Derived.Deep.DeepCutAuto
import Derived.Deep.DeepFit
import Derived.Lib.Hide
import Derived.BigQuiet
import Derived.Deep.QuietTactic
import Derived.Deep.RegionHeld3
namespace Go.Proofs.Ytpdlhcfepafjeaa
open Go.RowKit
set_option linter.unusedVariables false
set_option linter.unusedSimpArgs false
set_option maxRecDepth 20000
attribute [local go_sem ↓] Go.wp_at_zero Go.wp_at_succ
attribute [local go_sem] World.cell?_alloc_some frozen_alloc_some
open Go.Sort Go.Lib Go.Shelf
attribute [local go_sem] Oper.semAt_some

theorem clone_bytes (A : Option Addr) (n c : Nat) (l : List Nat) (w : World) (hb : Bytes w A n l) (hsp : ∀ ad, A = some ad → ad.spot = none) (hn : n ≤ 1073741824) :
    Calls Try.prog 55 #[.slice A n c] w (Makes w 5 l) := by
  have hinf := info_u8
  obtain ⟨i0, hi, e0⟩ := Option.map_eq_some_iff.1 hinf
  simp only [Prod.mk.injEq] at e0
  obtain ⟨hz0, hz1, hz2⟩ := e0
  cases A with
  | none =>
    have hl : l = [] := by
      cases l with
      | nil => rfl
      | cons x r => obtain ⟨_, ad, e, _⟩ := hb.2.2 0 x rfl; cases e
    subst hl
    have hc := AnyE.slices_Clone_nil Try.cloneB n c w
    refine Calls.mono (show Calls Try.prog 55 _ _ _ from hc) fun e w' ⟨h1, h2⟩ => ?_
    subst h2
    exact ⟨_, h1, OwnB.nil_ _ _ _, Below.refl _ _⟩
  | some ad =>
    obtain ⟨g, o, sp⟩ := ad
    obtain rfl : sp = none := hsp _ rfl
    have hcell : ∀ (j : Nat) (u : Value), (u8s l)[j]? = some u → w.cell? ⟨g, o + j, none⟩ = some u := fun j u hj => by
      simp only [u8s, List.getElem?_map, Option.map_eq_some_iff] at hj
      obtain ⟨x, hx, rfl⟩ := hj
      obtain ⟨_, ad, e, hc⟩ := hb.2.2 j x hx
      injection e with e
      subst e
      have hadd : (⟨g, o, none⟩ : Addr).add j = ⟨g, o + j, none⟩ := by unfold Addr.add; split <;> simp_all
      rw [hadd] at hc
      exact hc
    have hc := AnyE.slices_Clone Try.cloneB i0 _ 1 1 hi hz0 hz1 hz2 rfl (by decide) Try.sizeOf5 g o n c (u8s l) w (by rw [u8s_length, Nat.mul_one, hb.1]) hb.2.1 (by omega) hcell (u8s_one l)
    refine Calls.mono (show Calls Try.prog 55 _ _ _ from hc) fun e w' ⟨v', he, hown, _, hb2⟩ => ?_
    exact ⟨v', he, ⟨by rw [← hb.1]; exact hown, hb.lt⟩, hb2⟩

/-- Slices of bytes of the call's own. -/
def RowB (W : World) (base : Nat) (vs : List Value) (ls : List (List Nat)) : Prop := vs.length = ls.length ∧ ∀ (i : Nat) (l : List Nat), ls[i]? = some l → ∃ u, vs[i]? = some u ∧ OwnB W base 5 u l
theorem RowB.kept {W W' : World} {base : Nat} {vs : List Value} {ls : List (List Nat)} {row : Option Nat} (h : RowB W base vs ls) (hg : W.grownBy W' row) (hne : ∀ k, row = some k → ∀ cur fr, W.heap[k]? ≠ some (.cells cur 5 fr)) : RowB W' base vs ls :=
  ⟨h.1, fun i l hi => by
    obtain ⟨u, hu, ho⟩ := h.2 i l hi
    refine ⟨u, hu, ho.kept hg ?_⟩
    rcases ho.1.2 with ⟨rfl, _⟩ | ⟨g, cap, cur, rfl, _, hgb, _⟩
    · exact .inl rfl
    · refine .inr fun e => ?_
      simp only [Value.ownBlock] at e
      exact hne g e.symm _ _ hgb⟩
theorem RowB.snoc {W : World} {base : Nat} {vs : List Value} {ls : List (List Nat)} {u : Value} {l : List Nat} (h : RowB W base vs ls) (hu : OwnB W base 5 u l) : RowB W base (vs ++ [u]) (ls ++ [l]) :=
  ⟨by simp [h.1], fun i m hi => by
    rcases Nat.lt_trichotomy i ls.length with h1 | h1 | h1
    · rw [List.getElem?_append_left h1] at hi
      obtain ⟨u', e, ho⟩ := h.2 i m hi
      exact ⟨u', by rw [List.getElem?_append_left (by rw [h.1]; exact h1)]; exact e, ho⟩
    · subst h1
      rw [List.getElem?_append_right (Nat.le_refl _)] at hi
      simp at hi
      subst hi
      exact ⟨u, by rw [← h.1]; simp, hu⟩
    · rw [List.getElem?_eq_none (by simp; omega)] at hi; cases hi⟩
/-- A slice of such slices. -/
def OwnRows (W : World) (base : Nat) (v : Value) (ls : List (List Nat)) : Prop := ∃ vs, W.ownsRow base 22 1 v ls.length vs ∧ RowB W base vs ls
theorem OwnRows.low {W : World} {base base' : Nat} {v : Value} {ls : List (List Nat)} (h : OwnRows W base v ls) (hb : base' ≤ base) : OwnRows W base' v ls :=
  have ⟨vs, h1, h2⟩ := h
  ⟨vs, ⟨h1.1, h1.2.imp id fun ⟨g, cap, cur, e1, e2, r⟩ => ⟨g, cap, cur, e1, Nat.le_trans hb e2, r⟩⟩, h2.1, fun i l hi => have ⟨u, hu, ho⟩ := h2.2 i l hi; ⟨u, hu, OwnB.low ho hb⟩⟩
theorem OwnRows.nil_ (W : World) (base : Nat) : OwnRows W base (.slice none 0 0) [] := ⟨[], World.ownsRow_nil _ _ _ _, rfl, fun i l h => by simp at h⟩
theorem OwnRows.texts {W : World} {base : Nat} {A : Option Addr} {n c : Nat} {ls : List (List Nat)} (h : OwnRows W base (.slice A n c) ls) : Texts W A n ls ∧ n ≤ c := by
  obtain ⟨vs, hr, hlen, hv⟩ := h
  rcases hr.2 with ⟨e, e0⟩ | ⟨g, cap, cur, e, _, hgb, hnc, hcm, hcs, htk⟩
  · injection e with e1 e2 e3
    subst e1 e2 e3
    have : ls = [] := List.length_eq_zero_iff.1 e0
    subst this
    exact ⟨texts_nil, Nat.le_refl _⟩
  · injection e with e1 e2 e3
    subst e1 e3
    refine ⟨⟨e2, by omega, fun i l hi => ?_⟩, by omega⟩
    obtain ⟨u, hu, ho⟩ := hv i l hi
    obtain ⟨A', c', rfl, _, _⟩ := ho.form
    refine ⟨_, A', l.length, c', rfl, ?_, ho.bytes.2.2⟩
    have hadd : (⟨g, 0, none⟩ : Addr).add i = ⟨g, i, none⟩ := by unfold Addr.add; split <;> simp_all
    rw [hadd, cell_of_row W g i cur _ (0, 0) hgb]
    rw [← htk, List.getElem?_take] at hu
    split at hu
    · simpa using hu
    · cases hu
theorem not_cells_kept {W W' : World} {base : Nat} {e : TypeId} {size : Nat} {v : Value} {n : Nat} {xs : List Value} {row : Option Nat} (h : W.ownsRow base e size v n xs) (hg : W.grownBy W' row) (hr : ∀ r, row = some r → ∃ o : Obj, W.heap[r]? = some o ∧ o.isCells = false) : W'.ownsRow base e size v n xs := by
  refine h.kept hg ?_
  rcases h.2 with ⟨rfl, _⟩ | ⟨g, cap, cur, rfl, _, hgb, _⟩
  · exact .inl rfl
  · refine .inr fun e' => ?_
    obtain ⟨o, ho, hc⟩ := hr g (by simpa [Value.ownBlock] using e'.symm)
    rw [hgb] at ho; cases ho; cases hc
theorem RowB.keptc {W W' : World} {base : Nat} {vs : List Value} {ls : List (List Nat)} {row : Option Nat} (h : RowB W base vs ls) (hg : W.grownBy W' row) (hr : ∀ r, row = some r → ∃ o : Obj, W.heap[r]? = some o ∧ o.isCells = false) : RowB W' base vs ls :=
  h.kept hg fun k hk cur fr e => by
    obtain ⟨o, ho, hc⟩ := hr k hk
    rw [e] at ho; cases ho; cases hc
theorem boxed_keptc {W W' : World} {B : Nat} {t : TypeId} {v : Value} {row : Option Nat} (h : Boxed W B t v) (hg : W.grownBy W' row) (hr : ∀ r, row = some r → ∃ o : Obj, W.heap[r]? = some o ∧ o.isCells = false) : Boxed W' B t v :=
  h.kept hg fun e => by
    obtain ⟨o, ho, hc⟩ := hr B e.symm
    rw [show W.heap[B]? = _ from h] at ho; cases ho; cases hc
theorem boxed_below {W W' : World} {B : Nat} {t : TypeId} {v : Value} (h : Boxed W B t v) (hb : Below W.heap.size W W') : Boxed W' B t v := h.kept (grown_of_below hb none) (by simp)
theorem recsF_length : ∀ (f at_ : Nat) (b : List Nat), (recsF f at_ b).length ≤ b.length
  | 0, _, _ => Nat.zero_le _
  | f + 1, at_, b => by
    cases hr : recAt b with
    | none => rw [recsF]; rw [hr]; exact Nat.zero_le _
    | some x =>
      obtain ⟨s, v, e⟩ := x
      obtain ⟨h1, h2, h3⟩ := recAt_some hr
      rw [recsF]; rw [hr]
      have := recsF_length f (at_ + e) (b.drop e)
      rw [List.length_drop] at this
      simp only [List.length_cons]
      omega
theorem lastE_snoc (at_ : Nat) (l : List (Nat × Nat × Nat)) (x : Nat × Nat × Nat) : lastE at_ (l ++ [x]) = x.2.2 := by simp [lastE]

/-- What Scan's variables hold between two rounds. -/
def ScanI (w : World) (u0 : Value) (l : List Nat) (pre : List (RecI l)) (W : World) : Prop :=
  ((∃ v, Boxed W w.heap.size 24 v ∧ OwnRows W (w.heap.size + 1 + 1 + 1) v (pre.map fun x => recBytes l x.1)) ∧ Boxed W (w.heap.size + 1) 3 (.int .i64 (lastE 0 (pre.map (·.1)) : Int)) ∧ Boxed W (w.heap.size + 1 + 1) 22 u0) ∧ Below w.heap.size w W
theorem scanI_own (w : World) (u0 : Value) (l : List Nat) {B : Nat} (hB : w.heap.size ≤ B) : OwnFrom B (ScanI w u0 l) :=
  OwnFrom.and (fun s X Y row h hg hr => by
    obtain ⟨⟨v, hv, vs, h1, h2⟩, h3, h4⟩ := h
    have hr' : ∀ r, row = some r → ∃ o : Obj, X.heap[r]? = some o ∧ o.isCells = false := fun r e => (hr r e).2
    exact ⟨⟨v, boxed_keptc hv hg hr', vs, not_cells_kept h1 hg hr', h2.keptc hg hr'⟩, boxed_keptc h3 hg hr', boxed_keptc h4 hg hr'⟩) (ownFrom_below (Nat.le_refl _) hB)
theorem slice_info : (Try.prog.info? 22).map (fun i => (i.zero, i.size, i.bytes)) = some (some (.slice none 0 0), 1, 24) := by kernel_rfl

/-- Q, but that nothing panics. -/
def noPan (Q : Exit → Act → World → Prop) : Exit → Act → World → Prop
  | .panic _, _, _ => False
  | e, a, w => Q e a w
theorem wp_noPan {P : Program} {c : Code} {Q : Exit → Act → World → Prop} {a : Act} {w : World} (h : c.wp P (noPan Q) a w) : c.wp P Q a w :=
  Code.wp_mono (fun e a w h => by cases e <;> first | exact h | exact h.elim) h
theorem row_below {W W' : World} {base : Nat} {e : TypeId} {size : Nat} {v : Value} {n : Nat} {xs : List Value} (h : W.ownsRow base e size v n xs) (hb : Below W.heap.size W W') : W'.ownsRow base e size v n xs :=
  h.kept (grown_of_below hb none) (by cases v.ownBlock; exact .inl rfl; exact .inr (by simp))
theorem RowB.below {W W' : World} {base : Nat} {vs : List Value} {ls : List (List Nat)} (h : RowB W base vs ls) (hb : Below W.heap.size W W') : RowB W' base vs ls := h.kept (grown_of_below hb none) (fun k e => by cases e)
theorem row_cells {W : World} {base : Nat} {e : TypeId} {size : Nat} {v : Value} {n : Nat} {xs : List Value} (h : W.ownsRow base e size v n xs) {k : Nat} (hk : v.ownBlock = some k) : base ≤ k ∧ ∃ cur, W.heap[k]? = some (.cells cur e (0, 0)) := by
  rcases h.2 with ⟨rfl, _⟩ | ⟨g, cap, cur, rfl, hg, hgb, _⟩
  · cases hk
  · simp only [Value.ownBlock, Option.some.injEq] at hk
    subst hk
    exact ⟨hg, cur, hgb⟩
set_option maxHeartbeats 2000000 in
theorem scan_any (A : Option Addr) (n c : Nat) (l : List Nat) (w : World) (hb : Bytes w A n l) (hn : n ≤ 1000000000) (hc : n ≤ c) :
    Calls Try.prog 15 #[.slice A n c] w (fun e w' => ∃ v, e = .returned (.tuple #[v, .int .i64 (scanW l : Int)]) ∧ OwnRows w' w.heap.size v (scanL l) ∧ Below w.heap.size w w') := by
  have hsp : ∀ ad, A = some ad → 0 < n → ad.spot = none := fun ad e hp => by
    obtain ⟨ad', x, e', _, _, hx⟩ := hb.at_ hp
    rw [e] at e'
    injection e' with e'
    subst e'
    have := World.cell?_spot hx
    revert this
    unfold Addr.add
    split
    · exact fun h => h
    · next hne => exact absurd rfl hne
  refine (callsIn_wide (n := 22)).1 ?_
  have h1 : 1 ≤ 22 := by omega
  have hro : Fence.wide.round = none := rfl
  have hinf := slice_info
  obtain ⟨i0, hi, e0⟩ := Option.map_eq_some_iff.1 hinf
  simp only [Prod.mk.injEq] at e0
  obtain ⟨hz0, hz1, hz2⟩ := e0
  clear hinf
  refine callsIn_of_wp_marks Try.func15 rfl trivial ?_ hro
  simp only [Try.ntmps15, List.size_toArray, List.length_cons, List.length_nil, Nat.reduceAdd, Nat.reduceSub, Array.replicate_succ, Array.replicate_zero, List.push_toArray, List.append_toArray, List.nil_append, List.cons_append]
  gi_wp2_with (refine ⟨trivial, ?_⟩; gi_at_call 54; refine (callsIn_wide.2 (forms_any _ _ _ _)).mono ?_; rintro e w' ⟨rfl, rfl⟩)
  have bO := Boxed.new w 24 (.slice none 0 0)
  have bE := Boxed.new (w.alloc (.cells #[.slice none 0 0] 24)) 3 (.int .i64 0)
  have bN := Boxed.new ((w.alloc (.cells #[.slice none 0 0] 24)).alloc (.cells #[.int .i64 0] 3)) 22 (.slice A n c)
  rw [World.size_alloc, World.size_alloc] at bN
  rw [World.size_alloc] at bE
  have hB0 : Below w.heap.size w (((w.alloc (.cells #[.slice none 0 0] 24)).alloc (.cells #[.int .i64 0] 3)).alloc (.cells #[.slice A n c] 22)) := (((Below.refl _ w).alloc (Nat.le_refl _) _).alloc (by simp) _).alloc (by simp; omega) _
  refine wpIn_rangeFunc_ownG hro h1 (gf := 86) (lb := #[.pointer (some ⟨w.heap.size + 1 + 1, 0, none⟩)]) rfl trivial (enters_of Try.func86 (by kernel_rfl) rfl)
    (forms_stops (w.heap.size + 1 + 1) w.heap.size A n c l _ (by omega) hc bN.cell (hb.keep hB0) hb.block_lt hB0.size) kpB_t (kpB_b hB0.size (by simp)) (Below.refl _ _) (fun _ => rfl)
    (ScanI w (.slice A n c) l) (fun _ _ _ => False) (scanI_own w _ l (by simp; omega)) (fun _ _ _ _ _ hs _ _ => hs)
    ⟨⟨⟨_, (bO.alloc _).alloc _, OwnRows.nil_ _ _⟩, bE.alloc _, bN⟩, hB0⟩
    (fun x => { tmps := #[.slice A n c, undef, .pointer (some ⟨w.heap.size, 0, none⟩), .pointer (some ⟨w.heap.size + 1, 0, none⟩), .slice (if c = x.1.1 then A else A.map (·.add x.1.1)) x.1.2.1 (c - x.1.1), .int .i64 (x.1.2.2 : Int), .slice A n c, .func (.func 86) #[] #[.pointer (some ⟨w.heap.size + 1 + 1, 0, none⟩)], .slice (if c = x.1.1 then A else A.map (·.add x.1.1)) x.1.2.1 (c - x.1.1), .int .i64 (x.1.2.2 : Int), undef, undef, undef, undef, undef, undef, undef, undef], defers := [] }) ?assign ?body ?done ?stop
  case assign =>
    intro l0 x W K hK
    dsimp only [recE]
    generalize (if c = x.1.1 then A else A.map (·.add x.1.1)) = B at *
    gi_wp2
    exact hK
  case body =>
    rintro l0 pre ⟨⟨s, m, e⟩, hx⟩ W ⟨⟨⟨v, hv, vs, hrow, hrb⟩, hw, hbx⟩, hB⟩ hlt
    have hmem := recsF_mem _ _ _ _ hx
    simp only at hmem
    have hln := hb.1
    have hrl := recsF_length l.length 0 l
    have hlt2 : pre.length < 1000000000 := by unfold recs at hlt; omega
    have hbW := hb.under hB hb.block_lt
    have hbR := (hbW.cutFrom (k := s) (by omega) hc).cutTo (k := m) (by omega)
    have hsB : ∀ ad, (if c = s then A else A.map (·.add s)) = some ad → ad.spot = none := fun ad e => by
      split at e
      · exact hsp ad e (by unfold recs at hlt; omega)
      · obtain ⟨a0, ha, rfl⟩ := Option.map_eq_some_iff.1 e
        obtain ⟨b0, o0, sp⟩ := a0
        obtain rfl : sp = none := hsp _ ha (by unfold recs at hlt; omega)
        unfold Addr.add; split <;> rfl
    dsimp only
    generalize (if c = s then A else A.map (·.add s)) = B at *
    have hcl : ∀ W', Below W.heap.size W W' → Calls Try.prog 55 #[.slice B m (c - s)] W' (Makes W' 5 (recBytes l (s, m, e))) := fun W' h => clone_bytes B m (c - s) _ W' (hbR.keep h) hsB (by omega)
    have Hcl := Lib.hid hcl
    have Hm := Lib.hid hmem
    rw [List.length_map] at hrow
    have hzb : w.heap.size + 1 + 1 < W.heap.size := hbx.lt
    clear hbR hbW hcl hsB hmem hrl hln
    generalize hbq : recBytes l (s, m, e) = bq at *
    gi_wp2
    refine wpIn_region_held (S := fun _ => True) (by kernel_rfl) (by kernel_rfl) trivial (fun hHeld => ?_)
    generalize hQQ : Exit.then _ _ = QQ
    have hbd : Below W.heap.size W W.drew := (Below.refl _ _).drew
    revert hHeld hbd
    generalize World.drew _ = wd
    intro hHeld hbd
    have hvd := boxed_below hv hbd
    have hcd := hvd.cell
    have hzd := hbd.size
    have fin : ∀ (w2 w3 : World) (Au : Option Addr) (cu g3 c3 : Nat), Below W.heap.size W w2 → OwnB w2 wd.heap.size 5 (.slice Au bq.length cu) bq → wd.heap.size ≤ w2.heap.size → w3.ownsRow (w.heap.size + 1 + 1 + 1) 22 1 (.slice (some ⟨g3, 0, none⟩) (pre.length + 1) c3) (pre.length + 1) (vs ++ [.slice Au bq.length cu]) →
        (w2.alloc (.cells #[.slice Au bq.length cu] 22)).grownBy w3 v.ownBlock → Boxed w3 w.heap.size 24 v →
        noOut QQ .normal { tmps := #[.slice A n c, undef, .pointer (some ⟨w.heap.size, 0, none⟩), .pointer (some ⟨w.heap.size + 1, 0, none⟩), .slice B m (c - s), .int .i64 (e : Int), .slice A n c, .func (.func 86) #[] #[.pointer (some ⟨w.heap.size + 1 + 1, 0, none⟩)], .slice B m (c - s), .int .i64 (e : Int), v, .slice B m (c - s), .slice Au bq.length cu, .slice (some ⟨w2.heap.size, 0, none⟩) 1 1, .slice (some ⟨g3, 0, none⟩) (pre.length + 1) c3, undef, undef, undef], defers := [] }
          (w3.setCell ⟨w.heap.size, 0, none⟩ (.slice (some ⟨g3, 0, none⟩) (pre.length + 1) c3)) := by
      intro w2 w3 Au cu g3 c3 hb02 hu hzw2 hown3 hgrow3 hv3
      have hrow2 := row_below hrow hb02
      have hrow2a := row_below hrow2 (below_one (.cells #[.slice Au bq.length cu] 22))
      have hw2 := boxed_below hw hb02
      have hx2 := boxed_below hbx hb02
      have hsz2 := hb02.size
      have hw3 := (hw2.alloc (.cells #[.slice Au bq.length cu] 22)).kept hgrow3 (hw2.not_row (by decide) hrow2)
      have hx3 := (hx2.alloc (.cells #[.slice Au bq.length cu] 22)).kept hgrow3 (fun e => by have := (hrow.lt _ e.symm).1; omega)
      have rb2 := (hrb.below hb02).snoc (OwnB.low hu (base' := w.heap.size + 1 + 1 + 1) (by omega))
      have rb3 := (rb2.kept (World.grownBy_alloc w2 (.cells #[.slice Au bq.length cu] 22) none) (fun k e => by cases e)).kept hgrow3 (fun k hk cur fr e => by
        obtain ⟨_, cur2, h2⟩ := row_cells hrow2a hk
        rw [e] at h2
        simp at h2)
      have ko : KeepsOthers W w3 := ((KeepsOthers.of_grownBy (grown_of_below hb02 none) (fun j o e => by cases e)).trans (KeepsOthers.alloc w2 (.cells #[.slice Au bq.length cu] 22))).trans (KeepsOthers.of_grownBy hgrow3 fun j o ej hj => by
        obtain ⟨_, cur2, h2⟩ := row_cells hrow2a ej
        rw [hj] at h2; cases h2; rfl)
      have kb : Below w.heap.size W w3 := below_app ((hb02.mono hB.size).alloc (by omega) _) hrow2a hgrow3 (by omega) (by simp; omega)
      have rb4 := rb3.kept (grownBy_setCell' w3 w.heap.size (.slice (some ⟨g3, 0, none⟩) (pre.length + 1) c3)) (fun k hk cur fr e => by
        obtain rfl : w.heap.size = k := by simpa using hk
        rw [show w3.heap[w.heap.size]? = _ from hv3] at e
        simp at e)
      have row4 := hown3.kept (grownBy_setCell' w3 w.heap.size (.slice (some ⟨g3, 0, none⟩) (pre.length + 1) c3)) (.inr (hv3.not_row (by decide) hown3).symm)
      have hv4 := hv3.set (.slice (some ⟨g3, 0, none⟩) (pre.length + 1) c3)
      have hw4 := hw3.other (B' := w.heap.size) (by omega) (.slice (some ⟨g3, 0, none⟩) (pre.length + 1) c3)
      have hx4 := hx3.other (B' := w.heap.size) (by omega) (.slice (some ⟨g3, 0, none⟩) (pre.length + 1) c3)
      have ko4 := ko.trans (KeepsOthers.setCell w3 ⟨w.heap.size, 0, none⟩ (.slice (some ⟨g3, 0, none⟩) (pre.length + 1) c3))
      have kb4 := kb.setCell (p := ⟨w.heap.size, 0, none⟩) (Nat.le_refl _) (.slice (some ⟨g3, 0, none⟩) (pre.length + 1) c3)
      generalize w3.setCell _ _ = w4 at *
      have rb5 := rb4.kept (grownBy_setCell' w4 (w.heap.size + 1) (.int .i64 (e : Int))) (fun k hk cur fr e => by
        obtain rfl : w.heap.size + 1 = k := by simpa using hk
        rw [show w4.heap[w.heap.size + 1]? = _ from hw4] at e
        simp at e)
      have row5 := row4.kept (grownBy_setCell' w4 (w.heap.size + 1) (.int .i64 (e : Int))) (.inr (hw4.not_row (by decide) row4).symm)
      have hv5 := hv4.other (B' := w.heap.size + 1) (by omega) (.int .i64 (e : Int))
      have hw5 := hw4.set (.int .i64 (e : Int))
      have hx5 := hx4.other (B' := w.heap.size + 1) (by omega) (.int .i64 (e : Int))
      have ko5 := ko4.trans (KeepsOthers.setCell w4 ⟨w.heap.size + 1, 0, none⟩ (.int .i64 (e : Int)))
      have kb5 := kb4.setCell (p := ⟨w.heap.size + 1, 0, none⟩) (Nat.le_succ _) (.int .i64 (e : Int))
      have hwc := hw4.cell
      have hwf := hw4.frozen
      have Hx := Lib.hid hbx
      have K5 := Lib.hid ko5
      have B5 := Lib.hid kb5
      have X5 := Lib.hid hx5
      have HF : ScanI w (.slice A n c) l (pre ++ [⟨(s, m, e), hx⟩]) (w4.setCell ⟨w.heap.size + 1, 0, none⟩ (.int .i64 (e : Int))) := by
        unfold ScanI
        simp only [List.map_append, List.map_cons, List.map_nil, lastE_snoc, hbq]
        refine ⟨⟨⟨_, hv5, vs ++ [.slice Au bq.length cu], ?_, rb5⟩, hw5, hx5⟩, hB.trans kb5⟩
        rw [show (pre.map (fun x => recBytes l x.1) ++ [bq]).length = pre.length + 1 by simp]
        exact row5
      have HF5 := Lib.hid HF
      subst hQQ
      clear HF rb2 rb3 rb4 rb5 row4 row5 hv4 hv5 hw5 hx4 hx5 ko4 ko5 kb4 kb5 ko kb hown3 hgrow3 hu hv3 hw3 hx3 hrow2 hrow2a hw2 hx2 hb02 hbd hvd hcd
      simp only [noOut]
      gi_wp2
      exact ⟨K5.out.from _, ⟨B5.out, fun vv hvv => by rw [Hx.out.cell] at hvv; injection hvv with hvv; rw [← hvv]; exact X5.out.cell⟩, HF5.out⟩
    subst hQQ
    (refine take_op (i := 1) (v := ?_) rfl (by kernel_rfl) (by kernel_rfl) (by kernel_rfl) (fun _ _ _ h => h) (by rfl) ?_ hHeld ?_; rotate_left; (· (intro wS hSw; (try dsimp only at hSw); go_simp; first | done | with_reducible rfl)); simp only [Act.put, List.setIfInBounds_toArray, List.set_cons_zero, List.set_cons_succ])
    refine two_op (i := 0) (j := 2) rfl rfl (by kernel_rfl) (by rfl) (by rfl) ?_ ?_
    · (intro K hK; go_simp; skip; refine hK.out _ _ trivial (fun hHeld2 => ?_); clear hK K hHeld; have hHeld := hHeld2; clear hHeld2; (try simp only [Act.put, List.setIfInBounds_toArray, List.set_cons_zero, List.set_cons_succ]))
      (refine call_op (i := 2) rfl (by kernel_rfl) (by rfl) (fun K hK => ?_); go_simp; (go_at_call 55; refine (Hcl.out _ hbd).mono ?_; rintro e' w2 ⟨u, rfl, hu, hb2⟩; obtain ⟨Au, cu, rfl, _, _⟩ := hu.form; have hzw2 := hb2.size); refine hK.out _ _ trivial (fun hHeld2 => ?_); clear hK K hHeld; have hHeld := hHeld2; clear hHeld2; (try simp only [Act.put, List.setIfInBounds_toArray, List.set_cons_zero, List.set_cons_succ]))
      have hb02 : Below W.heap.size W w2 := hbd.trans (hb2.mono hzd)
      have hrow2 := row_below hrow hb02
      have hrow2a := row_below hrow2 (below_one (.cells #[.slice Au bq.length cu] 22))
      have hv2 := boxed_below hv hb02
      have hw2 := boxed_below hw hb02
      have hx2 := boxed_below hbx hb02
      have hv2c := hv2.cell
      have hv2a := (hv2.alloc (.cells #[.slice Au bq.length cu] 22)).cell
      (refine call_op (i := 3) rfl (by kernel_rfl) (by rfl) (fun K hK => ?_); go_simp; skip; refine hK.out _ _ trivial (fun hHeld2 => ?_); clear hK K hHeld; have hHeld := hHeld2; clear hHeld2; (try simp only [Act.put, List.setIfInBounds_toArray, List.set_cons_zero, List.set_cons_succ]))
      (refine call_op (i := 4) rfl (by kernel_rfl) (by rfl) (fun K hK => ?_); (refine wp_app _ (.tmp 10) (.tmp 13) 24 rfl (w.heap.size + 1 + 1 + 1) 22 i0 _ 1 24 Try.underlying24 hi hz0 hz1 hz2 rfl (by omega) v pre.length vs rfl hrow2a (some ⟨w2.heap.size, 0, none⟩) 1 1 [.slice Au bq.length cu] rfl (src_one rfl) (by unfold maxLen; omega) (by omega) (by simp; omega) ?_; intro v3 w3 hown3 hgrow3 hat3 hold3; obtain ⟨g3, c3, rfl⟩ := ownsRow_succ hown3; have hv3 := (hv2.alloc _).kept hgrow3 (hv2.not_row (by decide) hrow2); have hv3c := hv3.cell; have hv3f := hv3.frozen); refine hK.out _ _ trivial (fun hHeld2 => ?_); clear hK K hHeld; have hHeld := hHeld2; clear hHeld2; (try simp only [Act.put, List.setIfInBounds_toArray, List.set_cons_zero, List.set_cons_succ]))
      (refine call_op (i := 5) rfl (by kernel_rfl) (by rfl) (fun K hK => ?_); go_simp; skip; refine hK.out _ _ trivial (fun hHeld2 => ?_); clear hK K hHeld; have hHeld := hHeld2; clear hHeld2; (try simp only [Act.put, List.setIfInBounds_toArray, List.set_cons_zero, List.set_cons_succ]))
      (refine wpAnyH_done (by kernel_rfl) ?_ _)
      exact fin _ _ _ _ _ _ hb02 hu hzw2 hown3 hgrow3 hv3
    · (intro K hK; go_simp; (go_at_call 55; refine (Hcl.out _ hbd).mono ?_; rintro e' w2 ⟨u, rfl, hu, hb2⟩; obtain ⟨Au, cu, rfl, _, _⟩ := hu.form; have hzw2 := hb2.size); refine hK.out _ _ trivial (fun hHeld2 => ?_); clear hK K hHeld; have hHeld := hHeld2; clear hHeld2; (try simp only [Act.put, List.setIfInBounds_toArray, List.set_cons_zero, List.set_cons_succ]))
      have hb02 : Below W.heap.size W w2 := hbd.trans (hb2.mono hzd)
      have hrow2 := row_below hrow hb02
      have hrow2a := row_below hrow2 (below_one (.cells #[.slice Au bq.length cu] 22))
      have hv2 := boxed_below hv hb02
      have hw2 := boxed_below hw hb02
      have hx2 := boxed_below hbx hb02
      have hv2c := hv2.cell
      have hv2a := (hv2.alloc (.cells #[.slice Au bq.length cu] 22)).cell
      refine two_op (i := 0) (j := 3) rfl rfl (by kernel_rfl) (by rfl) (by rfl) ?_ ?_
      · (intro K hK; go_simp; skip; refine hK.out _ _ trivial (fun hHeld2 => ?_); clear hK K hHeld; have hHeld := hHeld2; clear hHeld2; (try simp only [Act.put, List.setIfInBounds_toArray, List.set_cons_zero, List.set_cons_succ]))
        (refine call_op (i := 3) rfl (by kernel_rfl) (by rfl) (fun K hK => ?_); go_simp; skip; refine hK.out _ _ trivial (fun hHeld2 => ?_); clear hK K hHeld; have hHeld := hHeld2; clear hHeld2; (try simp only [Act.put, List.setIfInBounds_toArray, List.set_cons_zero, List.set_cons_succ]))
        (refine call_op (i := 4) rfl (by kernel_rfl) (by rfl) (fun K hK => ?_); (refine wp_app _ (.tmp 10) (.tmp 13) 24 rfl (w.heap.size + 1 + 1 + 1) 22 i0 _ 1 24 Try.underlying24 hi hz0 hz1 hz2 rfl (by omega) v pre.length vs rfl hrow2a (some ⟨w2.heap.size, 0, none⟩) 1 1 [.slice Au bq.length cu] rfl (src_one rfl) (by unfold maxLen; omega) (by omega) (by simp; omega) ?_; intro v3 w3 hown3 hgrow3 hat3 hold3; obtain ⟨g3, c3, rfl⟩ := ownsRow_succ hown3; have hv3 := (hv2.alloc _).kept hgrow3 (hv2.not_row (by decide) hrow2); have hv3c := hv3.cell; have hv3f := hv3.frozen); refine hK.out _ _ trivial (fun hHeld2 => ?_); clear hK K hHeld; have hHeld := hHeld2; clear hHeld2; (try simp only [Act.put, List.setIfInBounds_toArray, List.set_cons_zero, List.set_cons_succ]))
        (refine call_op (i := 5) rfl (by kernel_rfl) (by rfl) (fun K hK => ?_); go_simp; skip; refine hK.out _ _ trivial (fun hHeld2 => ?_); clear hK K hHeld; have hHeld := hHeld2; clear hHeld2; (try simp only [Act.put, List.setIfInBounds_toArray, List.set_cons_zero, List.set_cons_succ]))
        (refine wpAnyH_done (by kernel_rfl) ?_ _)
        exact fin _ _ _ _ _ _ hb02 hu hzw2 hown3 hgrow3 hv3
      · (intro K hK; go_simp; skip; refine hK.out _ _ trivial (fun hHeld2 => ?_); clear hK K hHeld; have hHeld := hHeld2; clear hHeld2; (try simp only [Act.put, List.setIfInBounds_toArray, List.set_cons_zero, List.set_cons_succ]))
        (refine call_op (i := 0) rfl (by kernel_rfl) (by rfl) (fun K hK => ?_); go_simp; skip; refine hK.out _ _ trivial (fun hHeld2 => ?_); clear hK K hHeld; have hHeld := hHeld2; clear hHeld2; (try simp only [Act.put, List.setIfInBounds_toArray, List.set_cons_zero, List.set_cons_succ]))
        (refine call_op (i := 4) rfl (by kernel_rfl) (by rfl) (fun K hK => ?_); (refine wp_app _ (.tmp 10) (.tmp 13) 24 rfl (w.heap.size + 1 + 1 + 1) 22 i0 _ 1 24 Try.underlying24 hi hz0 hz1 hz2 rfl (by omega) v pre.length vs rfl hrow2a (some ⟨w2.heap.size, 0, none⟩) 1 1 [.slice Au bq.length cu] rfl (src_one rfl) (by unfold maxLen; omega) (by omega) (by simp; omega) ?_; intro v3 w3 hown3 hgrow3 hat3 hold3; obtain ⟨g3, c3, rfl⟩ := ownsRow_succ hown3; have hv3 := (hv2.alloc _).kept hgrow3 (hv2.not_row (by decide) hrow2); have hv3c := hv3.cell; have hv3f := hv3.frozen); refine hK.out _ _ trivial (fun hHeld2 => ?_); clear hK K hHeld; have hHeld := hHeld2; clear hHeld2; (try simp only [Act.put, List.setIfInBounds_toArray, List.set_cons_zero, List.set_cons_succ]))
        (refine call_op (i := 5) rfl (by kernel_rfl) (by rfl) (fun K hK => ?_); go_simp; skip; refine hK.out _ _ trivial (fun hHeld2 => ?_); clear hK K hHeld; have hHeld := hHeld2; clear hHeld2; (try simp only [Act.put, List.setIfInBounds_toArray, List.set_cons_zero, List.set_cons_succ]))
        (refine wpAnyH_done (by kernel_rfl) ?_ _)
        exact fin _ _ _ _ _ _ hb02 hu hzw2 hown3 hgrow3 hv3
  case done =>
    rintro D ys W hD hys ⟨⟨⟨v, hv, vs, hrow, hrb⟩, hw, hbx⟩, hB⟩ hK
    have e1 : ys.map (fun x => recBytes l x.1) = scanL l := by
      have h := congrArg (List.map (recBytes l)) hys
      rw [List.map_map] at h
      exact h
    have e2 : lastE 0 (ys.map (·.1)) = scanW l := by rw [hys]; rfl
    rw [e1] at hrow hrb
    rw [e2] at hw
    clear e1 e2 hys
    obtain ⟨R1, hR1⟩ : ∃ R1, scanL l = R1 := ⟨_, rfl⟩
    obtain ⟨R2, hR2⟩ : ∃ R2, scanW l = R2 := ⟨_, rfl⟩
    rw [hR1] at hrow hrb
    rw [hR2] at hw
    have HR1 := Lib.hid hR1
    have HR2 := Lib.hid hR2
    clear hR1 hR2
    obtain ⟨A1, c1, rfl⟩ : ∃ A1 c1, v = .slice A1 R1.length c1 := by
      rcases hrow.2 with ⟨rfl, e⟩ | ⟨g, cap, cur, rfl, _⟩
      · exact ⟨none, 0, by rw [e]⟩
      · exact ⟨_, _, rfl⟩
    gi_wp2
    refine wpIn_wide.2 (wp_noPan ?_)
    have hzb := hbx.lt
    have kd := (Below.refl W.heap.size W).drew
    have hvd := boxed_below hv kd
    have hwd := boxed_below hw kd
    have hrowd := row_below hrow kd
    have hrbd := hrb.below kd
    have hBd := hB.trans (kd.mono hB.size)
    have hKd : W.drew.heap[D]? = some (Obj.deferred (some [])) := hK
    (refine wp_region_held_drew (S := (S2 ⟨w.heap.size, 0, none⟩ ⟨w.heap.size + 1, 0, none⟩ (.slice A1 R1.length c1) (.int .i64 (R2 : Int)))) (by kernel_rfl) ?_ (fun hHeld => ?_); (· exact ⟨hvd.cell, hwd.cell⟩))
    revert hvd hwd hrowd hrbd hBd hKd hHeld
    generalize World.drew _ = wd
    intro hvd hwd hrowd hrbd hBd hKd hHeld
    clear hv hw hrow hrb hB hK hbx kd
    have c1v := hvd.cell
    have f1v := hvd.frozen
    have v2 := hvd.set (.slice A1 R1.length c1)
    have w2 := hwd.other (B' := w.heap.size) (by omega) (.slice A1 R1.length c1)
    (refine take_op (i := 0) (v := ?_) rfl (by kernel_rfl) (by kernel_rfl) (by kernel_rfl) (fun _ _ _ h => h) (by rfl) ?_ hHeld ?_; rotate_left; (· (intro wS hSw; (try dsimp only at hSw); go_simp; first | done | with_reducible rfl)); simp only [Act.put, List.setIfInBounds_toArray, List.set_cons_zero, List.set_cons_succ]); (refine take_op (i := 1) (v := ?_) rfl (by kernel_rfl) (by kernel_rfl) (by kernel_rfl) (fun _ _ _ h => h) (by rfl) ?_ hHeld ?_; rotate_left; (· (intro wS hSw; (try dsimp only at hSw); go_simp; first | done | with_reducible rfl)); simp only [Act.put, List.setIfInBounds_toArray, List.set_cons_zero, List.set_cons_succ])
    (refine call_op (i := 2) rfl (by kernel_rfl) (by rfl) (fun K hK => ?_); go_simp; skip; refine hK.out _ _ ⟨v2.cell, w2.cell⟩ (fun hHeld2 => ?_); clear hK K hHeld; have hHeld := hHeld2; clear hHeld2; (try simp only [Act.put, List.setIfInBounds_toArray, List.set_cons_zero, List.set_cons_succ]))
    have c2v := w2.cell
    have f2v := w2.frozen
    (refine call_op (i := 3) rfl (by kernel_rfl) (by rfl) (fun K hK => ?_); go_simp; skip; refine hK.out _ _ ⟨(v2.other (B' := w.heap.size + 1) (by omega) _).cell, (w2.set _).cell⟩ (fun hHeld2 => ?_); clear hK K hHeld; have hHeld := hHeld2; clear hHeld2; (try simp only [Act.put, List.setIfInBounds_toArray, List.set_cons_zero, List.set_cons_succ]))
    (refine wpAnyH_done (by kernel_rfl) ?_ _)
    have r1 := hrowd.kept (grownBy_setCell' wd w.heap.size (.slice A1 R1.length c1)) (.inr (hvd.not_row (by decide) hrowd).symm)
    have r2 := r1.kept (grownBy_setCell' _ (w.heap.size + 1) (.int .i64 (R2 : Int))) (.inr (w2.not_row (by decide) r1).symm)
    have q1 := hrbd.kept (grownBy_setCell' wd w.heap.size (.slice A1 R1.length c1)) (fun k hk cur fr e => by
        obtain rfl : w.heap.size = k := by simpa using hk
        rw [show wd.heap[w.heap.size]? = _ from hvd] at e
        simp at e)
    have q2 := q1.kept (grownBy_setCell' _ (w.heap.size + 1) (.int .i64 (R2 : Int))) (fun k hk cur fr e => by
        obtain rfl : w.heap.size + 1 = k := by simpa using hk
        rw [show (World.setCell wd _ _).heap[w.heap.size + 1]? = _ from w2] at e
        simp at e)
    have b2 := (hBd.setCell (p := ⟨w.heap.size, 0, none⟩) (Nat.le_refl _) (.slice A1 R1.length c1)).setCell (p := ⟨w.heap.size + 1, 0, none⟩) (Nat.le_succ _) (.int .i64 (R2 : Int))
    have v4 := v2.other (B' := w.heap.size + 1) (by omega) (.int .i64 (R2 : Int))
    have w4 := w2.set (.int .i64 (R2 : Int))
    have hD3 : w.heap.size + 1 + 1 + 1 ≤ D := by simpa using hD
    have k4 : ((wd.setCell ⟨w.heap.size, 0, none⟩ (.slice A1 R1.length c1)).setCell ⟨w.heap.size + 1, 0, none⟩ (.int .i64 (R2 : Int))).heap[D]? = some (Obj.deferred (some [])) :=
      (Below.heap_setCell _ ⟨w.heap.size + 1, 0, none⟩ _ D (fun e => by have : D = w.heap.size + 1 := e; omega)).trans ((Below.heap_setCell _ ⟨w.heap.size, 0, none⟩ _ D (fun e => by have : D = w.heap.size := e; omega)).trans hKd)
    generalize World.setCell _ _ (.int .i64 (R2 : Int)) = W4 at *
    have v5 := boxed_keptc v4 (grownBy_putObj' W4 D (.deferred none)) (fun r e => by cases e; exact ⟨_, k4, rfl⟩)
    have w5 := boxed_keptc w4 (grownBy_putObj' W4 D (.deferred none)) (fun r e => by cases e; exact ⟨_, k4, rfl⟩)
    have r5 := ownsRow_putObj r2 (.deferred none) k4 rfl
    have q5 := q2.keptc (grownBy_putObj' W4 D (.deferred none)) (fun r e => by cases e; exact ⟨_, k4, rfl⟩)
    have b5 := b2.trans (belowK_b (w := w) (Nat.le_refl _) W4 D _ (.deferred none) (by omega) k4 rfl rfl)
    have cv5 := v5.cell
    have cw5 := w5.cell
    simp only [noPan]
    gi_wp2
    refine ⟨by simp, .inl ⟨_, _, rfl, run_takeDeferred k4, ?_⟩⟩
    rw [HR1.out, HR2.out]
    exact ⟨_, by simp [results, go_sem, asAddr, cv5, cw5], _, rfl, OwnRows.low (base := w.heap.size + 1 + 1 + 1) ⟨vs, r5, q5⟩ (by omega), b5⟩
  case stop =>
    rintro D cc pre W _ _ h _
    exact h.elim
end Go.Proofs.Ytpdlhcfepafjeaa
