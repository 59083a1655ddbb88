/- log.forms and its closure: what it hands to a loop's body. -/
import Derived.Test.YtpdlhcfepafjeaaLogForm
import Derived.Test.YtpdlhcfepafjeaaNumB
import Derived.Test.YtpdlhcfepafjeaaFence
import Derived.Test.YtpdlhcfepafjeaaReg
import Derived.WalkKit
import Derived.WalkSpells
import Derived.WalkLawsBesides
import Derived.Deep.RegionHeld3
import Derived.Deep.DrawnRows
import Derived.Deep.DeepCutAuto
import Derived.Deep.DeepFit
import Derived.Lib.Hide
import Derived.BigQuiet
import Derived.Deep.QuietTactic
import Derived.Deep.RegionHeld3
namespace Go.Proofs.Ytpdlhcfepafjeaa
open Go.RowKit
set_option linter.unusedVariables false
set_option linter.unusedSimpArgs false
set_option maxRecDepth 20000
attribute [local go_sem ↓] Go.wp_at_zero Go.wp_at_succ
attribute [local go_sem] World.cell?_alloc_some frozen_alloc_some
open Go.Sort Go.Lib Go.Shelf
attribute [local go_sem] Oper.semAt_some

/-- A record's place among bytes. -/
abbrev RecI (l : List Nat) : Type := { x : Nat × Nat × Nat // x ∈ recs l }
/-- What a record is handed over as. -/
def recE (A : Option Addr) (c : Nat) (x : Nat × Nat × Nat) : Array Value := #[.slice (if c = x.1 then A else A.map (·.add x.1)) x.2.1 (c - x.1), .int .i64 (x.2.2 : Int)]
theorem recs_step {l : List Nat} {at_ s v e : Nat} (h : recAt (l.drop at_) = some (s, v, e)) : recsF l.length at_ (l.drop at_) = (at_ + s, v, at_ + e) :: recsF l.length (at_ + e) (l.drop (at_ + e)) := by
  obtain ⟨h1, h2, h3⟩ := recAt_some h
  have h2' := h2
  rw [List.length_drop] at h2
  obtain ⟨f, hf⟩ : ∃ f, l.length = f + 1 := ⟨l.length - 1, by omega⟩
  have e1 : recsF (f + 1) at_ (l.drop at_) = (at_ + s, v, at_ + e) :: recsF f (at_ + e) ((l.drop at_).drop e) := by rw [recsF]; rw [h]
  rw [hf, e1, List.drop_drop, recsF_fuel f (f + 1) _ _ (by rw [List.length_drop]; omega) (by rw [List.length_drop]; omega)]
theorem recs_stop {l : List Nat} {at_ : Nat} (h : recAt (l.drop at_) = none) : recsF l.length at_ (l.drop at_) = [] := by
  cases hl : l.length with
  | zero => rfl
  | succ f => rw [recsF]; rw [h]
/-- Nothing is read of bytes. -/
theorem recAt_none1 {b : List Nat} (h : (ntake b).2.2 ≠ 0 ∨ 1048576 < (ntake b).1 ∨ b.length < (ntake b).2.1 + 4 + (ntake b).1) : recAt b = none := by
  unfold recAt; rw [if_pos h]
theorem recAt_two {b : List Nat} (h0 : (ntake b).2.2 = 0) (h1 : (ntake b).1 ≤ 1048576) (h2 : (ntake b).2.1 + 4 + (ntake b).1 ≤ b.length) :
    recAt b = if (b.drop (ntake b).2.1).take 4 = fourB (crc (b.take (ntake b).2.1 ++ (b.drop ((ntake b).2.1 + 4)).take (ntake b).1)) then some ((ntake b).2.1 + 4, (ntake b).1, (ntake b).2.1 + 4 + (ntake b).1) else none := by
  unfold recAt; rw [if_neg (by omega)]
theorem add_blk (a : Addr) (i : Nat) : (a.add i).block = a.block := by unfold Addr.add; split <;> rfl
theorem Bytes.under {w w' : World} {A : Option Addr} {n n₀ : Nat} {l : List Nat} (h : Bytes w A n l) (hb : Below n₀ w w') (hA : ∀ ad, A = some ad → 0 < n → ad.block < n₀) : Bytes w' A n l :=
  ⟨h.1, h.2.1, fun i c hi => by
    obtain ⟨hc, ad, e, hcell⟩ := h.2.2 i c hi
    exact ⟨hc, ad, e, (hb.cell (by rw [add_blk]; exact hA ad e (by have := h.1; have := (List.getElem?_eq_some_iff.1 hi).1; omega))).trans hcell⟩⟩

/-- What a round keeps: what lay below n₀, and the box with the bytes. -/
def KpB (n₀ Bs : Nat) (W W' : World) : Prop := Below n₀ W W' ∧ ∀ v, W.cell? ⟨Bs, 0, none⟩ = some v → W'.cell? ⟨Bs, 0, none⟩ = some v
theorem kpB_t {n₀ Bs : Nat} {A B C : World} (h : KpB n₀ Bs A B) (k : KpB n₀ Bs B C) : KpB n₀ Bs A C := ⟨h.1.trans k.1, fun v hv => k.2 v (h.2 v hv)⟩
theorem kpB_b {n₀ Bs : Nat} {w : World} (hn : n₀ ≤ w.heap.size) (hB : Bs < w.heap.size) (W : World) (l : Nat) (o o' : Obj) (hl : w.heap.size ≤ l) (h : W.heap[l]? = some o) (h1 : o.isCells = false) (h2 : o.isWalk = false) : KpB n₀ Bs W (W.putObj l o') :=
  ⟨belowK_b hn W l o o' hl h h1 h2, fun v hv => by
    have := (belowK_b (n₀ := w.heap.size) (Nat.le_refl _) W l o o' hl h h1 h2).cell (p := ⟨Bs, 0, none⟩) hB
    rw [this]; exact hv⟩

set_option maxHeartbeats 1000000 in
theorem forms1_in (l0 Bs n₀ : Nat) (A : Option Addr) (n c : Nat) (l : List Nat) (W : World) (hn : n ≤ 1073741824) (hc : n ≤ c) (J Jx : List (RecI l) → World → Prop) (hJ : AbidesFrom W.heap.size J)
    (hY : ∀ pre x W, J pre W → pre.length < (recs l).length → YieldAt Fence.wide 20 Try.prog l0 (recE A c x.1) W fun e W' =>
      (e = .returned (.bool true) ∧ J (pre ++ [x]) W' ∧ KpB n₀ Bs W W') ∨ (e = .returned (.bool false) ∧ Jx (pre ++ [x]) W'))
    (hBs : W.cell? ⟨Bs, 0, none⟩ = some (.slice A n c)) (hb : Bytes W A n l) (h0 : J [] W) (hA : ∀ ad, A = some ad → 0 < n → ad.block < n₀) (hnW : n₀ ≤ W.heap.size) :
    CallsIn Fence.wide 21 Try.prog 86 #[.func (.yield l0) #[] #[], .pointer (some ⟨Bs, 0, none⟩)] W fun e W' => (∃ v, e = .returned v) ∧
      ((∃ ys : List (RecI l), ys.map (·.1) = recs l ∧ J ys W') ∨ (∃ pre : List (RecI l), True ∧ Jx pre W')) := by
  refine callsIn_of_wp Try.func86 rfl trivial ?_ rfl
  simp only [Try.ntmps86, List.size_toArray, List.length_cons, List.length_nil, Nat.reduceAdd, Nat.reduceSub, Array.replicate_succ, Array.replicate_zero, List.push_toArray, List.append_toArray, List.nil_append, List.cons_append]
  have HN := Lib.hid hb.1
  gi_wp2
  gi_loopw [3] (fun p wr => ∃ (at_ : Nat) (pre : List (RecI l)), p = .int .i64 (at_ : Int) ∧ at_ ≤ n ∧ pre.map (·.1) ++ recsF l.length at_ (l.drop at_) = recs l ∧ J pre wr ∧ Below n₀ W wr ∧ wr.cell? ⟨Bs, 0, none⟩ = some (.slice A n c))
    (fun p _ => n - (intOf p).toNat)
  case atStart => exact ⟨0, [], rfl, by omega, by simp [recs], h0, Below.refl _ _, hBs⟩
  case round =>
    obtain ⟨at_, pre, rfl, hat, hx, hJs, hnx, hbs⟩ := hrel
    have hbr := hb.under hnx hA
    have hbD := hbr.cutFrom hat hc
    obtain ⟨B2, hB2⟩ : ∃ B2, (if c = at_ then A else A.map (·.add at_)) = B2 := ⟨_, rfl⟩
    rw [hB2] at hbD
    obtain ⟨v0, hv0⟩ : ∃ v0, (ntake (l.drop at_)).1 = v0 := ⟨_, rfl⟩
    obtain ⟨k0, hk0⟩ : ∃ k0, (ntake (l.drop at_)).2.1 = k0 := ⟨_, rfl⟩
    obtain ⟨e0, he0⟩ : ∃ e0, (ntake (l.drop at_)).2.2 = e0 := ⟨_, rfl⟩
    have htk := take_any _ _ (c - at_) _ _ hbD
    unfold takeV at htk
    rw [hv0, hk0, he0] at htk
    have Htk := Lib.hid htk
    have HbD := Lib.hid hbD
    have Hbr := Lib.hid hbr
    have HV := Lib.hid hv0
    have HK := Lib.hid hk0
    have HE := Lib.hid he0
    have HJ := Lib.hid hJs
    have HX := Lib.hid hx
    clear htk hbD hbr hv0 hk0 he0 hJs hx
    have hat' : (at_ : Int) ≤ (n : Int) := by omega
    have hDl : (l.drop at_).length = n - at_ := by rw [List.length_drop, HN.out]
    have HD := Lib.hid hDl
    clear hDl
    by_cases c1 : e0 = 0
    case neg =>
      have hrn := recAt_none1 (b := l.drop at_) (.inl (by rw [HE.out]; exact c1))
      have hfin : pre.map (·.1) = recs l := by have := HX.out; rw [recs_stop hrn, List.append_nil] at this; exact this
      have Hfin := Lib.hid hfin
      have c1' : ((e0 : Int) != 0) = true := by simp; omega
      clear hfin hrn
      gi_wp2_with (refine ⟨trivial, ?_⟩; gi_at_call 87; refine (callsIn_wide.2 Htk.out).mono ?_; rintro e w1 ⟨rfl, hb1⟩; have hbs1 := cell_keep hb1 hbs)
      refine bodyPost_ret (results_none rfl _ _ _) rfl ?_
      exact ⟨⟨_, rfl⟩, .inl ⟨pre, Hfin.out, hJ _ _ _ none HJ.out (grown_of_below hb1 none) (by simp)⟩⟩
    subst c1
    by_cases c2 : v0 ≤ 1048576
    case neg =>
      have hrn := recAt_none1 (b := l.drop at_) (.inr (.inl (by rw [HV.out]; omega)))
      have hfin : pre.map (·.1) = recs l := by have := HX.out; rw [recs_stop hrn, List.append_nil] at this; exact this
      have Hfin := Lib.hid hfin
      have c2' : (1048576 : Int) < (v0 : Int) := by omega
      clear hfin hrn
      gi_wp2_with (refine ⟨trivial, ?_⟩; gi_at_call 87; refine (callsIn_wide.2 Htk.out).mono ?_; rintro e w1 ⟨rfl, hb1⟩; have hbs1 := cell_keep hb1 hbs)
      refine bodyPost_ret (results_none rfl _ _ _) rfl ?_
      exact ⟨⟨_, rfl⟩, .inl ⟨pre, Hfin.out, hJ _ _ _ none HJ.out (grown_of_below hb1 none) (by simp)⟩⟩
    have c2' : ¬ (1048576 : Int) < (v0 : Int) := by omega
    have hk0 : k0 ≤ n - at_ := by have := (ntake_append [] HE.out).2; rw [HK.out, HD.out] at this; exact this
    have r1 : IntKind.i64.wrap ((n : Int) - (at_ : Int)) = (n : Int) - (at_ : Int) := IntWalk.i64_in _ (by omega)
    have r2 : IntKind.i64.wrap ((k0 : Int) + 4) = (k0 : Int) + 4 := IntWalk.i64_in _ (by omega)
    have r3 : IntKind.i64.wrap (v0 : Int) = (v0 : Int) := IntWalk.i64_in _ (by omega)
    have r4 : IntKind.i64.wrap ((k0 : Int) + 4 + (v0 : Int)) = (k0 : Int) + 4 + (v0 : Int) := IntWalk.i64_in _ (by omega)
    by_cases c3 : k0 + 4 + v0 ≤ n - at_
    case neg =>
      have hrn := recAt_none1 (b := l.drop at_) (.inr (.inr (by rw [HV.out, HK.out, HD.out]; omega)))
      have hfin : pre.map (·.1) = recs l := by have := HX.out; rw [recs_stop hrn, List.append_nil] at this; exact this
      have Hfin := Lib.hid hfin
      have c3' : (n : Int) - (at_ : Int) < (k0 : Int) + 4 + (v0 : Int) := by omega
      clear hfin hrn
      gi_wp2_with (refine ⟨trivial, ?_⟩; gi_at_call 87; refine (callsIn_wide.2 Htk.out).mono ?_; rintro e w1 ⟨rfl, hb1⟩; have hbs1 := cell_keep hb1 hbs)
      refine bodyPost_ret (results_none rfl _ _ _) rfl ?_
      exact ⟨⟨_, rfl⟩, .inl ⟨pre, Hfin.out, hJ _ _ _ none HJ.out (grown_of_below hb1 none) (by simp)⟩⟩
    have c3' : ¬ (n : Int) - (at_ : Int) < (k0 : Int) + 4 + (v0 : Int) := by omega
    have hr2 := recAt_two (b := l.drop at_) HE.out (by rw [HV.out]; exact c2) (by rw [HV.out, HK.out, HD.out]; exact c3)
    rw [HV.out, HK.out, List.drop_drop, List.drop_drop] at hr2
    have HR := Lib.hid hr2
    clear hr2
    have q1 : at_ + k0 ≤ n := by omega
    have q2 : at_ + (k0 + 4) ≤ n := by omega
    have bS := (Hbr.out.cutFrom q1 hc)
    have bP := (Hbr.out.cutFrom q2 hc)
    obtain ⟨B3, hB3⟩ : ∃ B3, (if c = at_ + k0 then A else A.map (·.add (at_ + k0))) = B3 := ⟨_, rfl⟩
    obtain ⟨B4, hB4⟩ : ∃ B4, (if c = at_ + (k0 + 4) then A else A.map (·.add (at_ + (k0 + 4)))) = B4 := ⟨_, rfl⟩
    rw [hB3] at bS
    rw [if_neg (by omega)] at hB3 hB2
    rw [hB4] at bP
    have bS4 := bS.cutTo (k := 4) (by omega)
    have bPv := bP.cutTo (k := v0) (by omega)
    have bK := HbD.out.cutTo (k := k0) hk0
    have BS := Lib.hid bS4
    have BP := Lib.hid bPv
    have BK := Lib.hid bK
    clear bS bP bS4 bPv bK
    obtain ⟨s4, hs4⟩ : ∃ s4, (l.drop (at_ + k0)).take 4 = s4 := ⟨_, rfl⟩
    obtain ⟨kk, hkk⟩ : ∃ kk, (l.drop at_).take k0 = kk := ⟨_, rfl⟩
    obtain ⟨pp, hpp⟩ : ∃ pp, (l.drop (at_ + (k0 + 4))).take v0 = pp := ⟨_, rfl⟩
    rw [hs4] at BS HR
    rw [hkk] at BK HR
    rw [hpp] at BP HR
    clear hs4 hkk hpp
    have r5 : IntKind.i64.wrap ((at_ : Int) + (k0 : Int)) = ((at_ + k0 : Nat) : Int) := by rw [show (at_ : Int) + (k0 : Int) = ((at_ + k0 : Nat) : Int) by omega]; exact IntWalk.i64_in _ (by omega)
    have r6 : IntKind.i64.wrap (((at_ + k0 : Nat) : Int) + 4) = ((at_ + (k0 + 4) : Nat) : Int) := by rw [show ((at_ + k0 : Nat) : Int) + 4 = ((at_ + (k0 + 4) : Nat) : Int) by omega]; exact IntWalk.i64_in _ (by omega)
    have r7 : IntKind.i64.wrap (((at_ + (k0 + 4) : Nat) : Int) + (v0 : Int)) = ((at_ + (k0 + 4) + v0 : Nat) : Int) := by rw [show ((at_ + (k0 + 4) : Nat) : Int) + (v0 : Int) = ((at_ + (k0 + 4) + v0 : Nat) : Int) by omega]; exact IntWalk.i64_in _ (by omega)
    have q3 : at_ + (k0 + 4) + v0 ≤ n := by omega
    generalize hP1 : at_ + k0 = P1 at *
    generalize hP2 : at_ + (k0 + 4) = P2 at *
    generalize hP3 : P2 + v0 = P3 at *
    have HP1 := Lib.hid hP1
    have HP2 := Lib.hid hP2
    have HP3 := Lib.hid hP3
    have o1 : P1 ≤ P2 := by omega
    have o2 : P2 ≤ P3 := by omega
    have o3 : at_ ≤ P1 := by omega
    have o4 : P2 - P1 = 4 := by omega
    have o5 : P3 - P2 = v0 := by omega
    have o6 : P1 - at_ = k0 := by omega
    clear hP1 hP2 hP3 q1 q2
    gi_wp2_with (refine ⟨trivial, ?_⟩; gi_at_call 87; refine (callsIn_wide.2 Htk.out).mono ?_; rintro e w1 ⟨rfl, hb1⟩; have hbs1 := cell_keep hb1 hbs)
    obtain ⟨R, hR⟩ : ∃ R, decide (s4 = fourB (crc (kk ++ pp))) = R := ⟨_, rfl⟩
    have HRR := Lib.hid hR
    have Heq := Lib.hid (fun (W : World) (h1 : Bytes W B3 4 s4) (A3 : Option Addr) (m3 c3 : Nat) (h2 : Bytes W A3 m3 (fourB (crc (kk ++ pp)))) => by
      have := equal_bytes B3 A3 4 (c - P1) m3 c3 s4 (fourB (crc (kk ++ pp))) W h1 h2
      rw [hR] at this
      exact this)
    clear hR
    have u1 : P1 ≤ c := by omega
    have u2 : P2 ≤ c := by omega
    have u3 : ¬ c = P1 := by omega
    have u4 : ¬ c = at_ := by omega
    refine wpIn_wide.2 ?_
    (refine wp_region_held_drew (S := (S2 ⟨Bs, 0, none⟩ ⟨Bs, 0, none⟩ (.slice A n c) (.slice A n c))) (by kernel_rfl) ?_ (fun hHeld => ?_); (· exact ⟨cell_keep (Below.refl _ _).drew hbs1, cell_keep (Below.refl _ _).drew hbs1⟩))
    (refine take_op (i := 0) (v := ?_) rfl (by kernel_rfl) (by kernel_rfl) (by kernel_rfl) (fun _ _ _ h => h) (by rfl) ?_ hHeld ?_; rotate_left; (· (intro wS hSw; (try dsimp only at hSw); go_simp; first | done | with_reducible rfl)); simp only [Act.put, List.setIfInBounds_toArray, List.set_cons_zero, List.set_cons_succ]); (refine take_op (i := 1) (v := ?_) rfl (by kernel_rfl) (by kernel_rfl) (by kernel_rfl) (fun _ _ _ h => h) (by rfl) ?_ hHeld ?_; rotate_left; (· (intro wS hSw; (try dsimp only at hSw); go_simp; first | done | with_reducible rfl)); simp only [Act.put, List.setIfInBounds_toArray, List.set_cons_zero, List.set_cons_succ]); (refine take_op (i := 2) (v := ?_) rfl (by kernel_rfl) (by kernel_rfl) (by kernel_rfl) (fun _ _ _ h => h) (by rfl) ?_ hHeld ?_; rotate_left; (· (intro wS hSw; (try dsimp only at hSw); go_simp; first | done | with_reducible rfl)); simp only [Act.put, List.setIfInBounds_toArray, List.set_cons_zero, List.set_cons_succ]); (refine take_op (i := 3) (v := ?_) rfl (by kernel_rfl) (by kernel_rfl) (by kernel_rfl) (fun _ _ _ h => h) (by rfl) ?_ hHeld ?_; rotate_left; (· (intro wS hSw; (try dsimp only at hSw); go_simp; first | done | with_reducible rfl)); simp only [Act.put, List.setIfInBounds_toArray, List.set_cons_zero, List.set_cons_succ]); (refine take_op (i := 4) (v := ?_) rfl (by kernel_rfl) (by kernel_rfl) (by kernel_rfl) (fun _ _ _ h => h) (by rfl) ?_ hHeld ?_; rotate_left; (· (intro wS hSw; (try dsimp only at hSw); go_simp; first | done | with_reducible rfl)); simp only [Act.put, List.setIfInBounds_toArray, List.set_cons_zero, List.set_cons_succ]); (refine take_op (i := 5) (v := ?_) rfl (by kernel_rfl) (by kernel_rfl) (by kernel_rfl) (fun _ _ _ h => h) (by rfl) ?_ hHeld ?_; rotate_left; (· (intro wS hSw; (try dsimp only at hSw); go_simp; first | done | with_reducible rfl)); simp only [Act.put, List.setIfInBounds_toArray, List.set_cons_zero, List.set_cons_succ]); (refine take_op (i := 6) (v := ?_) rfl (by kernel_rfl) (by kernel_rfl) (by kernel_rfl) (fun _ _ _ h => h) (by rfl) ?_ hHeld ?_; rotate_left; (· (intro wS hSw; (try dsimp only at hSw); go_simp; first | done | with_reducible rfl)); simp only [Act.put, List.setIfInBounds_toArray, List.set_cons_zero, List.set_cons_succ]); (refine take_op (i := 7) (v := ?_) rfl (by kernel_rfl) (by kernel_rfl) (by kernel_rfl) (fun _ _ _ h => h) (by rfl) ?_ hHeld ?_; rotate_left; (· (intro wS hSw; (try dsimp only at hSw); go_simp; first | done | with_reducible rfl)); simp only [Act.put, List.setIfInBounds_toArray, List.set_cons_zero, List.set_cons_succ]); (refine take_op (i := 8) (v := ?_) rfl (by kernel_rfl) (by kernel_rfl) (by kernel_rfl) (fun _ _ _ h => h) (by rfl) ?_ hHeld ?_; rotate_left; (· (intro wS hSw; (try dsimp only at hSw); go_simp; first | done | with_reducible rfl)); simp only [Act.put, List.setIfInBounds_toArray, List.set_cons_zero, List.set_cons_succ]); (refine take_op (i := 9) (v := ?_) rfl (by kernel_rfl) (by kernel_rfl) (by kernel_rfl) (fun _ _ _ h => h) (by rfl) ?_ hHeld ?_; rotate_left; (· (intro wS hSw; (try dsimp only at hSw); go_simp; first | done | with_reducible rfl)); simp only [Act.put, List.setIfInBounds_toArray, List.set_cons_zero, List.set_cons_succ]); (refine take_op (i := 10) (v := ?_) rfl (by kernel_rfl) (by kernel_rfl) (by kernel_rfl) (fun _ _ _ h => h) (by rfl) ?_ hHeld ?_; rotate_left; (· (intro wS hSw; (try dsimp only at hSw); go_simp; first | done | with_reducible rfl)); simp only [Act.put, List.setIfInBounds_toArray, List.set_cons_zero, List.set_cons_succ]); (refine take_op (i := 11) (v := ?_) rfl (by kernel_rfl) (by kernel_rfl) (by kernel_rfl) (fun _ _ _ h => h) (by rfl) ?_ hHeld ?_; rotate_left; (· (intro wS hSw; (try dsimp only at hSw); go_simp; first | done | with_reducible rfl)); simp only [Act.put, List.setIfInBounds_toArray, List.set_cons_zero, List.set_cons_succ]); (refine take_op (i := 12) (v := ?_) rfl (by kernel_rfl) (by kernel_rfl) (by kernel_rfl) (fun _ _ _ h => h) (by rfl) ?_ hHeld ?_; rotate_left; (· (intro wS hSw; (try dsimp only at hSw); go_simp; first | done | with_reducible rfl)); simp only [Act.put, List.setIfInBounds_toArray, List.set_cons_zero, List.set_cons_succ])
    have hbd : Below wr.heap.size wr w1.drew := hb1.drew
    revert hHeld hbd
    generalize World.drew _ = wd
    intro hHeld hbd
    have hzd := hbd.size
    (refine call_op (i := 13) rfl (by kernel_rfl) (by rfl) (fun K hK => ?_); go_simp; skip; refine hK.out _ _ (S2.keep hHeld (below_one _)) (fun hHeld2 => ?_); clear hK K hHeld; have hHeld := hHeld2; clear hHeld2; (try simp only [Act.put, List.setIfInBounds_toArray, List.set_cons_zero, List.set_cons_succ]))
    (refine call_op (i := 14) rfl (by kernel_rfl) (by rfl) (fun K hK => ?_); go_simp; (go_at_call 83; refine (sum_any _ _ _ [kk, pp] _ ?hs).mono ?_; (case hs => exact texts2 (new_cell _ _ _ 0 rfl).1 (new_cell _ _ _ 1 rfl).1 ((BK.out.keep hbd).keep (below_one _)) ((BP.out.keep hbd).keep (below_one _))); rintro e w2 ⟨rfl, hb2⟩; have hz2 := hb2.size; (try simp at hz2)); refine hK.out _ _ (S2.keep hHeld hb2) (fun hHeld2 => ?_); clear hK K hHeld; have hHeld := hHeld2; clear hHeld2; (try simp only [Act.put, List.setIfInBounds_toArray, List.set_cons_zero, List.set_cons_succ]))
    (refine call_op (i := 15) rfl (by kernel_rfl) (by rfl) (fun K hK => ?_); go_simp; (go_at_call 82; refine (four_any _ _ (crc_lt (kk ++ pp))).mono ?_; rintro e w3 ⟨v3, rfl, hown3, hb3⟩; obtain ⟨A3, c3, rfl, _, _⟩ := hown3.form; have hz3 := hb3.size); refine hK.out _ _ (S2.keep hHeld hb3) (fun hHeld2 => ?_); clear hK K hHeld; have hHeld := hHeld2; clear hHeld2; (try simp only [Act.put, List.setIfInBounds_toArray, List.set_cons_zero, List.set_cons_succ]))
    (refine call_op (i := 16) rfl (by kernel_rfl) (by rfl) (fun K hK => ?_); go_simp; (go_at_call 88; refine (Heq.out _ (BS.out.keep (by ((repeat' first | with_reducible exact Below.refl _ _ | with_reducible assumption | with_reducible refine Below.alloc ?_ ?_ _ | with_reducible refine Below.setCell ?_ ?_ _ | with_reducible apply Below.drew | with_reducible apply below_drewN | with_reducible refine below_call ?_ (by with_reducible assumption) ?_) <;> (first | omega | (simp; done) | (simp; omega) | (simp at *; omega))))) _ _ _ hown3.bytes.2.2).mono ?_; rintro e w4 ⟨rfl, hb4⟩; have hz4 := hb4.size); refine hK.out _ _ (S2.keep hHeld hb4) (fun hHeld2 => ?_); clear hK K hHeld; have hHeld := hHeld2; clear hHeld2; (try simp only [Act.put, List.setIfInBounds_toArray, List.set_cons_zero, List.set_cons_succ]))
    (refine take_op (i := 17) (v := ?_) rfl (by kernel_rfl) (by kernel_rfl) (by kernel_rfl) (fun _ _ _ h => h) (by rfl) ?_ hHeld ?_; rotate_left; (· (intro wS hSw; (try dsimp only at hSw); go_simp; first | done | with_reducible rfl)); simp only [Act.put, List.setIfInBounds_toArray, List.set_cons_zero, List.set_cons_succ])
    (refine wpAnyH_done (by kernel_rfl) ?_ _)
    have hbf : Below wr.heap.size wr w4 := (((hbd.trans ((below_one _).mono hzd)).trans (hb2.mono (by simp; omega))).trans (hb3.mono (by omega))).trans (hb4.mono (by omega))
    have hbn : Below n₀ W w4 := hnx.trans (hbf.mono (by have := hnx.size; omega))
    have hJ4 := hJ _ _ _ none HJ.out (grown_of_below hbf none) (by simp)
    have HBN := Lib.hid hbn
    have HB4 := Lib.hid hHeld.1
    clear hHeld hbd hb2 hb3 hb4 hz2 hz3 hz4 hzd hbf hbn hown3 hb1 hbs1 hbs
    cases R
    · have hrn : recAt (l.drop at_) = none := by rw [HR.out]; exact if_neg (of_decide_eq_false HRR.out)
      have hfin : pre.map (·.1) = recs l := by have := HX.out; rw [recs_stop hrn, List.append_nil] at this; exact this
      have Hfin := Lib.hid hfin
      clear hfin hrn
      gi_wp2
      refine bodyPost_ret (results_none rfl _ _ _) rfl ?_
      exact ⟨⟨_, rfl⟩, .inl ⟨pre, Hfin.out, hJ4⟩⟩
    · have hrs : recAt (l.drop at_) = some (k0 + 4, v0, k0 + 4 + v0) := by rw [HR.out]; exact if_pos (of_decide_eq_true HRR.out)
      have hx2 := HX.out
      rw [recs_step hrs, HP2.out, show at_ + (k0 + 4 + v0) = P3 by have := HP2.out; have := HP3.out; omega] at hx2
      have Hx2 := Lib.hid hx2
      have hmem : (P2, v0, P3) ∈ recs l := by rw [← hx2]; simp
      have hlen : pre.length < (recs l).length := by rw [← hx2]; simp
      have hup : P3 ≤ n := q3
      clear hx2 hrs
      obtain ⟨fn, tmps, assign, body, hy, hRd⟩ := hY pre ⟨(P2, v0, P3), hmem⟩ w4 hJ4 hlen
      dsimp only [recE] at hy
      rw [hB4] at hy
      gi_wp2
      refine hRd.mono ?_
      rintro e W3 (⟨rfl, hJ3, hk3⟩ | ⟨rfl, hJx3⟩)
      · gi_wp2
        go_roundw
        case rel => exact ⟨P3, pre ++ [⟨(P2, v0, P3), hmem⟩], rfl, hup, by rw [List.map_append, List.append_assoc]; exact Hx2.out, hJ3, HBN.out.trans hk3.1, hk3.2 _ HB4.out⟩
        case measure => simp [intOf]; omega
      · gi_wp2
        refine bodyPost_ret (results_none rfl _ _ _) rfl ?_
        exact ⟨⟨_, rfl⟩, .inr ⟨pre ++ [⟨(P2, v0, P3), hmem⟩], trivial, hJx3⟩⟩

set_option maxHeartbeats 1000000 in
theorem forms_any (A : Option Addr) (n c : Nat) (w : World) :
    Calls Try.prog 54 #[.slice A n c] w fun e w' => e = .returned (.func (.func 86) #[] #[.pointer (some ⟨w.heap.size, 0, none⟩)]) ∧ w' = w.alloc (.cells #[.slice A n c] 22) := by
  go_enter Try.func54, Try.ntmps54
  go_wp2_with fail
  go_ret
  exact ⟨rfl, rfl⟩
theorem Bytes.block_lt {w : World} {A : Option Addr} {n : Nat} {l : List Nat} (h : Bytes w A n l) : ∀ ad, A = some ad → 0 < n → ad.block < w.heap.size := fun ad e hn => by
  obtain ⟨ad', c, e', _, _, hc⟩ := h.at_ hn
  rw [e] at e'
  injection e' with e'
  subst e'
  have := World.block_lt_of_cell? _ _ hc
  rwa [add_blk] at this
theorem forms_stops (Bs n₀ : Nat) (A : Option Addr) (n c : Nat) (l : List Nat) (w : World) (hn : n ≤ 1073741824) (hc : n ≤ c) (hBs : w.cell? ⟨Bs, 0, none⟩ = some (.slice A n c)) (hb : Bytes w A n l)
    (hA : ∀ ad, A = some ad → 0 < n → ad.block < n₀) (hnW : n₀ ≤ w.heap.size) :
    SeqStopsK Fence.wide 21 Try.prog 86 #[.pointer (some ⟨Bs, 0, none⟩)] (fun x : RecI l => recE A c x.1) (KpB n₀ Bs) (fun ys => ys.map (·.1) = recs l) (fun _ => True) (recs l).length w := fun l0 J Jx W hW hJ _ hY h0 =>
  forms1_in l0 Bs n₀ A n c l W hn hc J Jx hJ hY (cell_keep hW hBs) (hb.keep hW) h0 hA (Nat.le_trans hnW hW.size)
end Go.Proofs.Ytpdlhcfepafjeaa
