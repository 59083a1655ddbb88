/- The document's sets of ids: add, Set, Join. -/
import Derived.Test.YtbmognchbldfdaaRef05
import Derived.Test.YtbmognchbldfdaaIdJoin
import Derived.Test.YtbmognchbldfdaaReg
import Derived.WalkKit
import Derived.WalkSpells
import Derived.WalkLawsBesides
import Derived.Deep.RegionHeld3
import Derived.Deep.DrawnRows
import Derived.Deep.DeepCutAuto
import Derived.Deep.DeepFit
import Derived.Lib.Hide
import Derived.BigQuiet
import Derived.Deep.QuietTactic
namespace Go.Proofs.Ytbmognchbldfdaa
open Go.RowKit
set_option linter.unusedVariables false
set_option linter.unusedSimpArgs false
set_option maxRecDepth 20000
attribute [local go_sem ↓] Go.wp_at_zero Go.wp_at_succ
attribute [local go_sem] World.cell?_alloc_some frozen_alloc_some
open Go.Sort Go.Lib

theorem ins_none {x : IdP} : ∀ {a : List IdP}, (∀ z ∈ a, ¬ idLt x z) → ins x a = a ++ [x]
  | [], _ => rfl
  | y :: a, h => by
    rw [ins, if_neg (h y (by simp)), ins_none fun z hz => h z (by simp [hz])]
    rfl
theorem ins_found {x y : IdP} : ∀ {a : List IdP}, (∃ z ∈ a, idLt x z) → ins x (a ++ [y]) = ins x a ++ [y]
  | [], h => by obtain ⟨z, hz, _⟩ := h; simp at hz
  | b :: a, h => by
    rw [List.cons_append, ins, ins]
    by_cases hb : idLt x b
    · rw [if_pos hb, if_pos hb]; rfl
    · rw [if_neg hb, if_neg hb, ins_found]
      · rfl
      · obtain ⟨z, hz, hx⟩ := h
        rcases List.mem_cons.1 hz with e | hz
        · subst e; exact absurd hx hb
        · exact ⟨z, hz, hx⟩
theorem ins_new {x y : IdP} (hy : idLt x y) : ∀ {a : List IdP}, (∀ z ∈ a, ¬ idLt x z) → ins x (a ++ [y]) = a ++ [x] ++ [y]
  | [], _ => by simp [ins, hy]
  | b :: a, h => by
    rw [List.cons_append, ins, if_neg (h b (by simp)), ins_new hy fun z hz => h z (by simp [hz])]
    simp
/-- Has the new one been laid behind the first i? -/
def laidBy (x : IdP) (l : List IdP) (i : Nat) : Bool := (l.take i).any fun z => decide (idLt x z)
def outBy (x : IdP) (l : List IdP) (i : Nat) : List IdP := if laidBy x l i then ins x (l.take i) else l.take i
theorem laidBy_iff {x : IdP} {l : List IdP} {i : Nat} : laidBy x l i = true ↔ ∃ z ∈ l.take i, idLt x z := by simp [laidBy]
theorem laidBy_no {x : IdP} {l : List IdP} {i : Nat} (h : laidBy x l i = false) : ∀ z ∈ l.take i, ¬ idLt x z := fun z hz hx => by
  have := laidBy_iff.2 ⟨z, hz, hx⟩
  rw [h] at this; cases this
theorem laidBy_step {x y : IdP} {l : List IdP} {i : Nat} (hy : l[i]? = some y) : laidBy x l (i + 1) = (laidBy x l i || decide (idLt x y)) := by
  unfold laidBy; rw [List.take_add_one, hy, List.any_append]; simp
theorem outBy_had {x y : IdP} {l : List IdP} {i : Nat} (hy : l[i]? = some y) (h : laidBy x l i = true) : outBy x l (i + 1) = outBy x l i ++ [y] := by
  unfold outBy
  rw [laidBy_step hy, h, Bool.true_or, if_pos rfl, if_pos rfl, List.take_add_one, hy]
  exact ins_found (laidBy_iff.1 h)
theorem outBy_new {x y : IdP} {l : List IdP} {i : Nat} (hy : l[i]? = some y) (h : laidBy x l i = false) (hx : idLt x y) : outBy x l (i + 1) = outBy x l i ++ [x] ++ [y] := by
  unfold outBy
  rw [laidBy_step hy, h, decide_eq_true hx]
  simp only [Bool.or_true, if_true, Bool.false_eq_true, if_false]
  rw [List.take_add_one, hy]
  exact ins_new hx (laidBy_no h)
theorem outBy_not {x y : IdP} {l : List IdP} {i : Nat} (hy : l[i]? = some y) (h : laidBy x l i = false) (hx : ¬ idLt x y) : outBy x l (i + 1) = outBy x l i ++ [y] := by
  unfold outBy
  rw [laidBy_step hy, h, decide_eq_false hx]
  simp only [Bool.or_false, Bool.false_eq_true, if_false]
  rw [List.take_add_one, hy]
  rfl
theorem outBy_end {x : IdP} {l : List IdP} : ins x l = if laidBy x l l.length then outBy x l l.length else outBy x l l.length ++ [x] := by
  unfold outBy
  cases h : laidBy x l l.length
  · simp only [Bool.false_eq_true, if_false, List.take_length]
    have := laidBy_no h
    rw [List.take_length] at this
    exact ins_none this
  · simp
theorem outBy_len {x : IdP} {l : List IdP} {i : Nat} : (outBy x l i).length ≤ i + 1 := by
  unfold outBy
  have h : (l.take i).length ≤ i := by rw [List.length_take]; omega
  split
  · rw [length_ins]; omega
  · omega
theorem src_two {w : World} {x : IdP} : Src (w.alloc (.cells #[.int .i64 x.1, .int .i64 x.2] 47)) 2 (some ⟨w.heap.size, 0, none⟩) 1 (flat2 [x]) := by
  refine ⟨rfl, fun j u hj => ⟨_, rfl, ?_⟩, flat2_one⟩
  rw [addr_add, Nat.zero_add]
  have hb := Blk.new w 47 #[.int .i64 x.1, .int .i64 x.2]
  rw [hb.cell, List.getElem?_toArray]
  exact hj
theorem src_two' {w : World} {r n : Int} : Src (w.alloc (.cells #[.int .i64 r, .int .i64 n] 47)) 2 (some ⟨w.heap.size, 0, none⟩) 1 (flat2 [(r, n)]) := src_two (x := (r, n))
theorem own_keep {w w' : World} {base : Nat} {e : TypeId} {size : Nat} {v : Value} {n : Nat} {xs : List Value} (h : w.ownsRow base e size v n xs) (hb : Below w.heap.size w w') : w'.ownsRow base e size v n xs := by
  refine ⟨h.1, ?_⟩
  rcases h.2 with h0 | ⟨g, cap, cur, e1, hbs, hg, rest⟩
  · exact .inl h0
  · exact .inr ⟨g, cap, cur, e1, hbs, (hb.block g (Array.getElem?_eq_some_iff.1 hg).1).trans hg, rest⟩
/-- From a block that the call laid first: what lay ahead of it. -/
theorem below_w {w W : World} {o : Obj} (h : Below (w.heap.size + 1) (w.alloc o) W) : Below w.heap.size w W := ((Below.refl _ _).alloc (Nat.le_refl _) o).trans (h.mono (by omega))

theorem own_fresh {w : World} {base : Nat} {e : TypeId} {size : Nat} {A : Option Addr} {n m c : Nat} {xs : List Value} (h : w.ownsRow base e size (.slice A n c) m xs) : Fresh base A := fun ad ea => by
  rcases h.2 with ⟨h0, _⟩ | ⟨g, cap, cur, e1, hbs, _⟩
  · injection h0 with e1 e2 e3
    rw [ea] at e1; cases e1
  · injection e1 with e1 e2 e3
    rw [ea] at e1
    cases e1
    exact ⟨rfl, hbs⟩
set_option maxHeartbeats 8000000 in
theorem add5_fresh (A : Option Addr) (m c : Nat) (l : List IdP) (x1 x2 : Int) (w : World) (h1 : IdsAt w A m l) (hm : m ≤ 1000000) (hx1 : (Lit.int .i64 x1).wf = true) (hx2 : (Lit.int .i64 x2).wf = true) :
    Calls Try.prog 46 #[.slice A m c, .agg #[.int .i64 x1, .int .i64 x2]] w
      fun e w' => ∃ A' c', e = .returned (.slice A' (m + 1) c') ∧ IdsAt w' A' (m + 1) (ins (x1, x2) l) ∧ Fresh w.heap.size A' ∧ Below w.heap.size w w' := by
  have H1 := Lib.hid h1
  have Hm := Lib.hid h1.1
  have hwf : ∀ z ∈ ins (x1, x2) l, (Lit.int .i64 z.1).wf = true ∧ (Lit.int .i64 z.2).wf = true := fun z hz => by
    rcases mem_ins.1 hz with e | hz
    · subst e; exact ⟨hx1, hx2⟩
    · exact h1.wf z hz
  have Hwf := Lib.hid hwf
  have hle := fun a b c d W => less5_any a b c d W
  clear h1 hwf
  go_enter Try.func46, Try.ntmps46
  go_wp2_with fail
  go_loopw [5, 6, 7] (fun s5 s6 s7 wr => ∃ (i k c' : Nat) (A' : Option Addr), i ≤ m ∧ s7 = .int .i64 i ∧ s6 = .bool (laidBy (x1, x2) l i) ∧ s5 = .slice A' k c' ∧ k = (outBy (x1, x2) l i).length ∧ wr.ownsRow (w.heap.size + 1) 47 2 (.slice A' k c') k (flat2 (outBy (x1, x2) l i)) ∧ Below (w.heap.size + 1) (w.alloc (.cells #[.int .i64 x1, .int .i64 x2] 47)) wr) (fun s5 s6 s7 _ => m - (intOf s7).toNat)
  case atStart => exact ⟨0, 0, 0, none, by omega, rfl, by simp [laidBy], rfl, by simp [outBy, laidBy], by simp [outBy, laidBy, flat2]; exact World.ownsRow_nil _ _ _ _, Below.refl _ _⟩
  case round =>
    obtain ⟨i, k, c', A', hi, rfl, rfl, rfl, hk, hown, hb0⟩ := hrel
    have hbr := below_w hb0
    have hzr := hb0.size
    simp only [World.size_alloc] at hzr
    have t0 : wr.cell? ⟨w.heap.size, 0, none⟩ = some (.int .i64 x1) := (hb0.cell (p := ⟨w.heap.size, 0, none⟩) (by simp)).trans (new_cell w #[.int .i64 x1, .int .i64 x2] 47 0 rfl).1
    have t1 : wr.cell? ⟨w.heap.size, 1, none⟩ = some (.int .i64 x2) := (hb0.cell (p := ⟨w.heap.size, 1, none⟩) (by simp)).trans (new_cell w #[.int .i64 x1, .int .i64 x2] 47 1 rfl).1
    have hkm : k ≤ i + 1 := by rw [hk]; exact outBy_len
    by_cases hlt : i < m
    · obtain ⟨r, n, b, o, e1, _, _, rfl, pw0, pw1⟩ := H1.out.at_ hlt
      have E1 := Lib.hid e1
      have p0 := cell_keep hbr pw0
      have p1 := cell_keep hbr pw1
      have i0 : (0 : Int) ≤ (i : Int) := by omega
      have i1 : (i : Int) < (m : Int) := by omega
      have Hk := Lib.hid hk
      clear e1 hk
      have hpre : S4 ⟨w.heap.size, 0, none⟩ ⟨w.heap.size, 1, none⟩ ⟨b, o + i * 2, none⟩ ⟨b, o + i * 2 + 1, none⟩ (.int .i64 x1) (.int .i64 x2) (.int .i64 r) (.int .i64 n) wr := ⟨t0, t1, p0, p1⟩
      cases hD : laidBy (x1, x2) l i
      · have hl1 := fun W => hle x1 x2 r n W
        have HD := Lib.hid hD
        clear hD hle t0 t1 p0 p1
        by_cases hx : idLt (x1, x2) (r, n)
        · rw [decide_eq_true hx] at hl1
          have Hst := Lib.hid (laidBy_step E1.out (x := (x1, x2)))
          have Hout := Lib.hid (outBy_new E1.out HD.out hx)
          have Hst2 := Lib.hid (show laidBy (x1, x2) l (i + 1) = true from by rw [Hst.out, HD.out, decide_eq_true hx]; rfl)
          clear hx
          go_upto_region 6 with fail
          (refine wp_region_held_drew (S := (S4 ⟨w.heap.size, 0, none⟩ ⟨w.heap.size, 1, none⟩ ⟨b, o + i * 2, none⟩ ⟨b, o + i * 2 + 1, none⟩ (.int .i64 x1) (.int .i64 x2) (.int .i64 r) (.int .i64 n))) (by kernel_rfl) ?_ (fun hHeld => ?_); (· exact hpre.drew))
          (refine take_op (i := 0) (v := ?_) rfl (by kernel_rfl) (by kernel_rfl) (by kernel_rfl) (fun _ _ _ h => h) (by rfl) ?_ hHeld ?_; rotate_left; (· (intro wS hSw; (try dsimp only at hSw); go_simp; first | done | with_reducible rfl)); simp only [Act.put, List.setIfInBounds_toArray, List.set_cons_zero, List.set_cons_succ]); (refine take_op (i := 1) (v := ?_) rfl (by kernel_rfl) (by kernel_rfl) (by kernel_rfl) (fun _ _ _ h => h) (by rfl) ?_ hHeld ?_; rotate_left; (· (intro wS hSw; (try dsimp only at hSw); go_simp; first | done | with_reducible rfl)); simp only [Act.put, List.setIfInBounds_toArray, List.set_cons_zero, List.set_cons_succ]); (refine take_op (i := 2) (v := ?_) rfl (by kernel_rfl) (by kernel_rfl) (by kernel_rfl) (fun _ _ _ h => h) (by rfl) ?_ hHeld ?_; rotate_left; (· (intro wS hSw; (try dsimp only at hSw); go_simp; first | done | with_reducible rfl)); simp only [Act.put, List.setIfInBounds_toArray, List.set_cons_zero, List.set_cons_succ]); (refine take_op (i := 3) (v := ?_) rfl (by kernel_rfl) (by kernel_rfl) (by kernel_rfl) (fun _ _ _ h => h) (by rfl) ?_ hHeld ?_; rotate_left; (· (intro wS hSw; (try dsimp only at hSw); go_simp; first | done | with_reducible rfl)); simp only [Act.put, List.setIfInBounds_toArray, List.set_cons_zero, List.set_cons_succ]); (refine take_op (i := 4) (v := ?_) rfl (by kernel_rfl) (by kernel_rfl) (by kernel_rfl) (fun _ _ _ h => h) (by rfl) ?_ hHeld ?_; rotate_left; (· (intro wS hSw; (try dsimp only at hSw); go_simp; first | done | with_reducible rfl)); simp only [Act.put, List.setIfInBounds_toArray, List.set_cons_zero, List.set_cons_succ]); (refine take_op (i := 5) (v := ?_) rfl (by kernel_rfl) (by kernel_rfl) (by kernel_rfl) (fun _ _ _ h => h) (by rfl) ?_ hHeld ?_; rotate_left; (· (intro wS hSw; (try dsimp only at hSw); go_simp; first | done | with_reducible rfl)); simp only [Act.put, List.setIfInBounds_toArray, List.set_cons_zero, List.set_cons_succ]); (refine take_op (i := 6) (v := ?_) rfl (by kernel_rfl) (by kernel_rfl) (by kernel_rfl) (fun _ _ _ h => h) (by rfl) ?_ hHeld ?_; rotate_left; (· (intro wS hSw; (try dsimp only at hSw); go_simp; first | done | with_reducible rfl)); simp only [Act.put, List.setIfInBounds_toArray, List.set_cons_zero, List.set_cons_succ]); (refine take_op (i := 7) (v := ?_) rfl (by kernel_rfl) (by kernel_rfl) (by kernel_rfl) (fun _ _ _ h => h) (by rfl) ?_ hHeld ?_; rotate_left; (· (intro wS hSw; (try dsimp only at hSw); go_simp; first | done | with_reducible rfl)); simp only [Act.put, List.setIfInBounds_toArray, List.set_cons_zero, List.set_cons_succ])
          (refine call_op (i := 8) rfl (by kernel_rfl) (by rfl) (fun K hK => ?_); go_simp; (go_at_call 37; (with_reducible refine (hl1 _).mono ?_); rintro e w1 ⟨rfl, hb1⟩); refine hK.out _ _ (hHeld.keep hb1) (fun hHeld2 => ?_); clear hK K hHeld; have hHeld := hHeld2; clear hHeld2; (try simp only [Act.put, List.setIfInBounds_toArray, List.set_cons_zero, List.set_cons_succ]))
          (refine take_op (i := 9) (v := ?_) rfl (by kernel_rfl) (by kernel_rfl) (by kernel_rfl) (fun _ _ _ h => h) (by rfl) ?_ hHeld ?_; rotate_left; (· (intro wS hSw; (try dsimp only at hSw); go_simp; first | done | with_reducible rfl)); simp only [Act.put, List.setIfInBounds_toArray, List.set_cons_zero, List.set_cons_succ])
          (refine wpAnyH_done (by kernel_rfl) ?_ _)
          obtain ⟨t0, t1, p0, p1⟩ := hHeld
          have hb1' : Below wr.heap.size wr w1 := ((Below.refl _ _).drew).trans hb1
          replace hown := own_keep hown hb1'
          replace hb0 := hb0.trans (hb1'.mono hzr)
          have hz1 := hb0.size
          simp only [World.size_alloc] at hz1
          clear hb1 hb1' hpre hbr hzr
          go_wp2_with (first | (at_builtin; obtain ⟨i0, hi0, hz00, hz01, hz02⟩ := idinfo; (at_builtin; go_loud (refine wpList_app _ rfl (.tmp 24) (.tmp 26) 25 rfl _ 47 i0 _ 2 16 Try.underlying25 hi0 hz00 hz01 hz02 rfl (by omega) _ _ _ rfl (hown.alloc _) _ _ _ _ rfl src_two' ?h63 ?hby ?hbase ?_); (case h63 => (unfold maxLen; first | omega | (simp; done) | (simp; omega))); (case hby => first | omega | (simp; done) | (simp; omega)); (case hbase => first | omega | (simp; done) | (simp; omega)); intro v_w2' w2' hownw2' hgroww2' hatw2' holdw2'); clear hi0 hz00 hz01 hz02; have hb2 := below_app ((hb0).alloc (by omega) (.cells #[_, _] 47)) (hown.alloc _) hgroww2' (Nat.le_refl _) (by simp; omega); have hown2 : w2'.ownsRow (w.heap.size + 1) 47 2 v_w2' (k + 1) (flat2 ((outBy (x1, x2) l i ++ [(x1, x2)]))) := (by rw [flat2_append]; exact hownw2'); obtain ⟨A4, c4, rfl, _, _⟩ := own_form5 hown2; have hz2 := hb2.size; simp only [World.size_alloc] at hz2; have q0 := cell_keep (below_w hb2) pw0; have q1 := cell_keep (below_w hb2) pw1; skip) | (at_builtin; obtain ⟨i0, hi0, hz00, hz01, hz02⟩ := idinfo; (at_builtin; go_loud (refine wpList_app _ rfl (.tmp 28) (.tmp 33) 25 rfl _ 47 i0 _ 2 16 Try.underlying25 hi0 hz00 hz01 hz02 rfl (by omega) _ _ _ rfl (hown2.alloc _) _ _ _ _ rfl src_two' ?h63 ?hby ?hbase ?_); (case h63 => (unfold maxLen; first | omega | (simp; done) | (simp; omega))); (case hby => first | omega | (simp; done) | (simp; omega)); (case hbase => first | omega | (simp; done) | (simp; omega)); intro v_w3' w3' hownw3' hgroww3' hatw3' holdw3'); clear hi0 hz00 hz01 hz02; have hb3 := below_app ((hb2).alloc (by omega) (.cells #[_, _] 47)) (hown2.alloc _) hgroww3' (Nat.le_refl _) (by simp; omega); have hown3 : w3'.ownsRow (w.heap.size + 1) 47 2 v_w3' (k + 1 + 1) (flat2 ((outBy (x1, x2) l i ++ [(x1, x2)] ++ [(r, n)]))) := (by rw [flat2_append]; exact hownw3'); obtain ⟨A5, c5, rfl, _, _⟩ := own_form5 hown3; have hz3 := hb3.size; simp only [World.size_alloc] at hz3; skip))
          go_roundw
          case rel => exact ⟨i + 1, k + 1 + 1, c5, A5, by omega, by go_num, by rw [Hst2.out], rfl, by rw [Hout.out]; simp [Hk.out], by rw [Hout.out]; exact hown3, hb3⟩
          case measure => simp [intOf]; omega
        · rw [decide_eq_false hx] at hl1
          have Hout := Lib.hid (outBy_not E1.out HD.out hx)
          have Hst2 := Lib.hid (show laidBy (x1, x2) l (i + 1) = false from by rw [laidBy_step E1.out (x := (x1, x2)), HD.out, decide_eq_false hx]; rfl)
          clear hx
          go_upto_region 6 with fail
          (refine wp_region_held_drew (S := (S4 ⟨w.heap.size, 0, none⟩ ⟨w.heap.size, 1, none⟩ ⟨b, o + i * 2, none⟩ ⟨b, o + i * 2 + 1, none⟩ (.int .i64 x1) (.int .i64 x2) (.int .i64 r) (.int .i64 n))) (by kernel_rfl) ?_ (fun hHeld => ?_); (· exact hpre.drew))
          (refine take_op (i := 0) (v := ?_) rfl (by kernel_rfl) (by kernel_rfl) (by kernel_rfl) (fun _ _ _ h => h) (by rfl) ?_ hHeld ?_; rotate_left; (· (intro wS hSw; (try dsimp only at hSw); go_simp; first | done | with_reducible rfl)); simp only [Act.put, List.setIfInBounds_toArray, List.set_cons_zero, List.set_cons_succ]); (refine take_op (i := 1) (v := ?_) rfl (by kernel_rfl) (by kernel_rfl) (by kernel_rfl) (fun _ _ _ h => h) (by rfl) ?_ hHeld ?_; rotate_left; (· (intro wS hSw; (try dsimp only at hSw); go_simp; first | done | with_reducible rfl)); simp only [Act.put, List.setIfInBounds_toArray, List.set_cons_zero, List.set_cons_succ]); (refine take_op (i := 2) (v := ?_) rfl (by kernel_rfl) (by kernel_rfl) (by kernel_rfl) (fun _ _ _ h => h) (by rfl) ?_ hHeld ?_; rotate_left; (· (intro wS hSw; (try dsimp only at hSw); go_simp; first | done | with_reducible rfl)); simp only [Act.put, List.setIfInBounds_toArray, List.set_cons_zero, List.set_cons_succ]); (refine take_op (i := 3) (v := ?_) rfl (by kernel_rfl) (by kernel_rfl) (by kernel_rfl) (fun _ _ _ h => h) (by rfl) ?_ hHeld ?_; rotate_left; (· (intro wS hSw; (try dsimp only at hSw); go_simp; first | done | with_reducible rfl)); simp only [Act.put, List.setIfInBounds_toArray, List.set_cons_zero, List.set_cons_succ]); (refine take_op (i := 4) (v := ?_) rfl (by kernel_rfl) (by kernel_rfl) (by kernel_rfl) (fun _ _ _ h => h) (by rfl) ?_ hHeld ?_; rotate_left; (· (intro wS hSw; (try dsimp only at hSw); go_simp; first | done | with_reducible rfl)); simp only [Act.put, List.setIfInBounds_toArray, List.set_cons_zero, List.set_cons_succ]); (refine take_op (i := 5) (v := ?_) rfl (by kernel_rfl) (by kernel_rfl) (by kernel_rfl) (fun _ _ _ h => h) (by rfl) ?_ hHeld ?_; rotate_left; (· (intro wS hSw; (try dsimp only at hSw); go_simp; first | done | with_reducible rfl)); simp only [Act.put, List.setIfInBounds_toArray, List.set_cons_zero, List.set_cons_succ]); (refine take_op (i := 6) (v := ?_) rfl (by kernel_rfl) (by kernel_rfl) (by kernel_rfl) (fun _ _ _ h => h) (by rfl) ?_ hHeld ?_; rotate_left; (· (intro wS hSw; (try dsimp only at hSw); go_simp; first | done | with_reducible rfl)); simp only [Act.put, List.setIfInBounds_toArray, List.set_cons_zero, List.set_cons_succ]); (refine take_op (i := 7) (v := ?_) rfl (by kernel_rfl) (by kernel_rfl) (by kernel_rfl) (fun _ _ _ h => h) (by rfl) ?_ hHeld ?_; rotate_left; (· (intro wS hSw; (try dsimp only at hSw); go_simp; first | done | with_reducible rfl)); simp only [Act.put, List.setIfInBounds_toArray, List.set_cons_zero, List.set_cons_succ])
          (refine call_op (i := 8) rfl (by kernel_rfl) (by rfl) (fun K hK => ?_); go_simp; (go_at_call 37; (with_reducible refine (hl1 _).mono ?_); rintro e w1 ⟨rfl, hb1⟩); refine hK.out _ _ (hHeld.keep hb1) (fun hHeld2 => ?_); clear hK K hHeld; have hHeld := hHeld2; clear hHeld2; (try simp only [Act.put, List.setIfInBounds_toArray, List.set_cons_zero, List.set_cons_succ]))
          (refine take_op (i := 9) (v := ?_) rfl (by kernel_rfl) (by kernel_rfl) (by kernel_rfl) (fun _ _ _ h => h) (by rfl) ?_ hHeld ?_; rotate_left; (· (intro wS hSw; (try dsimp only at hSw); go_simp; first | done | with_reducible rfl)); simp only [Act.put, List.setIfInBounds_toArray, List.set_cons_zero, List.set_cons_succ])
          (refine wpAnyH_done (by kernel_rfl) ?_ _)
          obtain ⟨t0, t1, p0, p1⟩ := hHeld
          have hb1' : Below wr.heap.size wr w1 := ((Below.refl _ _).drew).trans hb1
          replace hown := own_keep hown hb1'
          replace hb0 := hb0.trans (hb1'.mono hzr)
          have hz1 := hb0.size
          simp only [World.size_alloc] at hz1
          clear hb1 hb1' hpre hbr hzr
          go_wp2_with (at_builtin; obtain ⟨i0, hi0, hz00, hz01, hz02⟩ := idinfo; (at_builtin; go_loud (refine wpList_app _ rfl (.tmp 28) (.tmp 33) 25 rfl _ 47 i0 _ 2 16 Try.underlying25 hi0 hz00 hz01 hz02 rfl (by omega) _ _ _ rfl (hown.alloc _) _ _ _ _ rfl src_two' ?h63 ?hby ?hbase ?_); (case h63 => (unfold maxLen; first | omega | (simp; done) | (simp; omega))); (case hby => first | omega | (simp; done) | (simp; omega)); (case hbase => first | omega | (simp; done) | (simp; omega)); intro v_w3' w3' hownw3' hgroww3' hatw3' holdw3'); clear hi0 hz00 hz01 hz02; have hb3 := below_app ((hb0).alloc (by omega) (.cells #[_, _] 47)) (hown.alloc _) hgroww3' (Nat.le_refl _) (by simp; omega); have hown3 : w3'.ownsRow (w.heap.size + 1) 47 2 v_w3' (k + 1) (flat2 ((outBy (x1, x2) l i ++ [(r, n)]))) := (by rw [flat2_append]; exact hownw3'); obtain ⟨A5, c5, rfl, _, _⟩ := own_form5 hown3; have hz3 := hb3.size; simp only [World.size_alloc] at hz3; skip)
          go_roundw
          case rel => exact ⟨i + 1, k + 1, c5, A5, by omega, by go_num, by rw [Hst2.out], rfl, by rw [Hout.out]; simp [Hk.out], by rw [Hout.out]; exact hown3, hb3⟩
          case measure => simp [intOf]; omega
      · have Hout := Lib.hid (outBy_had E1.out hD)
        have Hst2 := Lib.hid (show laidBy (x1, x2) l (i + 1) = true from by rw [laidBy_step E1.out (x := (x1, x2)), hD]; rfl)
        clear hD hle
        go_upto_region 6 with fail
        (refine wp_region_held_drew (S := (S4 ⟨w.heap.size, 0, none⟩ ⟨w.heap.size, 1, none⟩ ⟨b, o + i * 2, none⟩ ⟨b, o + i * 2 + 1, none⟩ (.int .i64 x1) (.int .i64 x2) (.int .i64 r) (.int .i64 n))) (by kernel_rfl) ?_ (fun hHeld => ?_); (· exact hpre.drew))
        (refine take_op (i := 0) (v := ?_) rfl (by kernel_rfl) (by kernel_rfl) (by kernel_rfl) (fun _ _ _ h => h) (by rfl) ?_ hHeld ?_; rotate_left; (· (intro wS hSw; (try dsimp only at hSw); go_simp; first | done | with_reducible rfl)); simp only [Act.put, List.setIfInBounds_toArray, List.set_cons_zero, List.set_cons_succ]); (refine take_op (i := 1) (v := ?_) rfl (by kernel_rfl) (by kernel_rfl) (by kernel_rfl) (fun _ _ _ h => h) (by rfl) ?_ hHeld ?_; rotate_left; (· (intro wS hSw; (try dsimp only at hSw); go_simp; first | done | with_reducible rfl)); simp only [Act.put, List.setIfInBounds_toArray, List.set_cons_zero, List.set_cons_succ]); (refine take_op (i := 2) (v := ?_) rfl (by kernel_rfl) (by kernel_rfl) (by kernel_rfl) (fun _ _ _ h => h) (by rfl) ?_ hHeld ?_; rotate_left; (· (intro wS hSw; (try dsimp only at hSw); go_simp; first | done | with_reducible rfl)); simp only [Act.put, List.setIfInBounds_toArray, List.set_cons_zero, List.set_cons_succ])
        (refine skip_op (i := 3) rfl (by kernel_rfl) (by kernel_rfl) (by kernel_rfl) (fun _ _ _ h => h) (by rfl) hHeld ?_; simp only [Act.put, List.setIfInBounds_toArray, List.set_cons_zero, List.set_cons_succ]); (refine skip_op (i := 4) rfl (by kernel_rfl) (by kernel_rfl) (by kernel_rfl) (fun _ _ _ h => h) (by rfl) hHeld ?_; simp only [Act.put, List.setIfInBounds_toArray, List.set_cons_zero, List.set_cons_succ]); (refine skip_op (i := 5) rfl (by kernel_rfl) (by kernel_rfl) (by kernel_rfl) (fun _ _ _ h => h) (by rfl) hHeld ?_; simp only [Act.put, List.setIfInBounds_toArray, List.set_cons_zero, List.set_cons_succ]); (refine skip_op (i := 6) rfl (by kernel_rfl) (by kernel_rfl) (by kernel_rfl) (fun _ _ _ h => h) (by rfl) hHeld ?_; simp only [Act.put, List.setIfInBounds_toArray, List.set_cons_zero, List.set_cons_succ]); (refine skip_op (i := 7) rfl (by kernel_rfl) (by kernel_rfl) (by kernel_rfl) (fun _ _ _ h => h) (by rfl) hHeld ?_; simp only [Act.put, List.setIfInBounds_toArray, List.set_cons_zero, List.set_cons_succ]); (refine skip_op (i := 8) rfl (by kernel_rfl) (by kernel_rfl) (by kernel_rfl) (fun _ _ _ h => h) (by rfl) hHeld ?_; simp only [Act.put, List.setIfInBounds_toArray, List.set_cons_zero, List.set_cons_succ])
        (refine take_op (i := 9) (v := ?_) rfl (by kernel_rfl) (by kernel_rfl) (by kernel_rfl) (fun _ _ _ h => h) (by rfl) ?_ hHeld ?_; rotate_left; (· (intro wS hSw; (try dsimp only at hSw); go_simp; first | done | with_reducible rfl)); simp only [Act.put, List.setIfInBounds_toArray, List.set_cons_zero, List.set_cons_succ])
        (refine wpAnyH_done (by kernel_rfl) ?_ _)
        replace hown := own_keep hown ((Below.refl _ _).drew)
        replace hb0 := hb0.drew
        rw [show wr.heap.size = wr.drew.heap.size from rfl] at hzr
        generalize wr.drew = wd at hHeld hown hb0 hzr ⊢
        obtain ⟨t0, t1, p0, p1⟩ := hHeld
        go_wp2_with (at_builtin; obtain ⟨i0, hi0, hz00, hz01, hz02⟩ := idinfo; (at_builtin; go_loud (refine wpList_app _ rfl (.tmp 28) (.tmp 33) 25 rfl _ 47 i0 _ 2 16 Try.underlying25 hi0 hz00 hz01 hz02 rfl (by omega) _ _ _ rfl (hown.alloc _) _ _ _ _ rfl src_two' ?h63 ?hby ?hbase ?_); (case h63 => (unfold maxLen; first | omega | (simp; done) | (simp; omega))); (case hby => first | omega | (simp; done) | (simp; omega)); (case hbase => first | omega | (simp; done) | (simp; omega)); intro v_w3' w3' hownw3' hgroww3' hatw3' holdw3'); clear hi0 hz00 hz01 hz02; have hb3 := below_app ((hb0).alloc (by omega) (.cells #[_, _] 47)) (hown.alloc _) hgroww3' (Nat.le_refl _) (by simp; omega); have hown3 : w3'.ownsRow (w.heap.size + 1) 47 2 v_w3' (k + 1) (flat2 ((outBy (x1, x2) l i ++ [(r, n)]))) := (by rw [flat2_append]; exact hownw3'); obtain ⟨A5, c5, rfl, _, _⟩ := own_form5 hown3; have hz3 := hb3.size; simp only [World.size_alloc] at hz3; skip)
        go_roundw
        case rel => exact ⟨i + 1, k + 1, c5, A5, by omega, by go_num, by rw [Hst2.out], rfl, by rw [Hout.out]; simp [Hk.out], by rw [Hout.out]; exact hown3, hb3⟩
        case measure => simp [intOf]; omega
    · have hil : i = l.length := by have := Hm.out; omega
      have hend := @outBy_end (x1, x2) l
      rw [← hil] at hend
      have ni : ¬ (i : Int) < (m : Int) := by omega
      cases hD : laidBy (x1, x2) l i
      · rw [hD] at hend
        simp only [Bool.false_eq_true, if_false] at hend
        have Hend := Lib.hid hend
        have Hk := Lib.hid hk
        clear hD hend hk
        go_wp2_with (at_builtin; obtain ⟨i0, hi0, hz00, hz01, hz02⟩ := idinfo; (at_builtin; go_loud (refine wpList_app _ rfl (.tmp 37) (.tmp 39) 25 rfl _ 47 i0 _ 2 16 Try.underlying25 hi0 hz00 hz01 hz02 rfl (by omega) _ _ _ rfl (hown.alloc _) _ _ _ _ rfl src_two' ?h63 ?hby ?hbase ?_); (case h63 => (unfold maxLen; first | omega | (simp; done) | (simp; omega))); (case hby => first | omega | (simp; done) | (simp; omega)); (case hbase => first | omega | (simp; done) | (simp; omega)); intro v_w3' w3' hownw3' hgroww3' hatw3' holdw3'); clear hi0 hz00 hz01 hz02; have hb3 := below_app ((hb0).alloc (by omega) (.cells #[_, _] 47)) (hown.alloc _) hgroww3' (Nat.le_refl _) (by simp; omega); have hown3 : w3'.ownsRow (w.heap.size + 1) 47 2 v_w3' (k + 1) (flat2 ((outBy (x1, x2) l i ++ [(x1, x2)]))) := (by rw [flat2_append]; exact hownw3'); obtain ⟨A5, c5, rfl, _, _⟩ := own_form5 hown3; have hz3 := hb3.size; simp only [World.size_alloc] at hz3; skip)
        go_ret
        have hlen : k + 1 = m + 1 := by
          have := congrArg List.length Hend.out
          rw [length_ins, List.length_append, ← Hk.out, ← Hm.out] at this
          simp at this; omega
        rw [← Hend.out, hlen] at hown3
        rw [hlen]
        obtain ⟨r1, _, _⟩ := ids_of_own hown3 (by unfold maxLen; omega) Hwf.out
        exact ⟨A5, ⟨c5, rfl⟩, r1, (own_fresh hown3).mono (by omega), below_w hb3⟩
      · rw [hD] at hend
        simp only [if_true] at hend
        have Hend := Lib.hid hend
        have Hk := Lib.hid hk
        have Hown := Lib.hid hown
        clear hD hend hk hown
        go_wp2_with fail
        go_ret
        have hlen : k = m + 1 := by
          have := congrArg List.length Hend.out
          rw [length_ins, ← Hk.out, ← Hm.out] at this
          omega
        have hown3 := Hown.out
        rw [← Hend.out, hlen] at hown3
        rw [hlen]
        obtain ⟨r1, _, _⟩ := ids_of_own hown3 (by unfold maxLen; omega) Hwf.out
        exact ⟨A', ⟨c', rfl⟩, r1, (own_fresh hown3).mono (by omega), hbr⟩
theorem add5_any (A : Option Addr) (m c : Nat) (l : List IdP) (x1 x2 : Int) (w : World) (h1 : IdsAt w A m l) (hm : m ≤ 1000000) (hx1 : (Lit.int .i64 x1).wf = true) (hx2 : (Lit.int .i64 x2).wf = true) :
    Calls Try.prog 46 #[.slice A m c, .agg #[.int .i64 x1, .int .i64 x2]] w
      fun e w' => ∃ A' c', e = .returned (.slice A' (m + 1) c') ∧ IdsAt w' A' (m + 1) (ins (x1, x2) l) ∧ Below w.heap.size w w' :=
  (add5_fresh A m c l x1 x2 w h1 hm hx1 hx2).mono fun e w' ⟨A', c', he, hI, _, hb⟩ => ⟨A', c', he, hI, hb⟩
end Go.Proofs.Ytbmognchbldfdaa
