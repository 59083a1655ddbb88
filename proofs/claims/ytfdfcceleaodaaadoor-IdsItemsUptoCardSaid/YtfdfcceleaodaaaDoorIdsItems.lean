/- The walk of the law IdsItems. -/
import Derived.Test.YtfdfcceleaodaaaDoorRefTake5
import Derived.Test.YtfdfcceleaodaaaDoorAwake05
import Derived.Test.YtfdfcceleaodaaaDoorCodec
import Derived.WalkKit
import Derived.WalkSpells
import Derived.WalkLawsBesides
import Derived.Deep.RegionHeld3
import Derived.Deep.DrawnRows
import Derived.Deep.DeepCutAuto
import Derived.Deep.DeepFit
import Derived.Lib.Hide
import Derived.BigQuiet
import Derived.Deep.QuietTactic
namespace Go.Proofs.YtfdfcceleaodaaaDoor
open Go.RowKit
set_option linter.unusedVariables false
set_option linter.unusedSimpArgs false
set_option maxRecDepth 20000
attribute [local go_sem ↓] Go.wp_at_zero Go.wp_at_succ
attribute [local go_sem] World.cell?_alloc_some frozen_alloc_some
attribute [local go_sem] lt2 lt3 lt4 lt5
attribute [local simp] lt2 lt3 lt4 lt5

/-- A right set's item is taken as the set. -/
theorem isN_ntree (a : Int) : isN (ntree a) = true := (isN_mk _ _ _ _).2 ⟨rfl, rfl, rfl⟩
theorem inums_get (l : List IdP) (j : Nat) (h : j < l.length) : (inums l)[2 * j]? = some l[j].1 ∧ (inums l)[2 * j + 1]? = some l[j].2 := by
  induction l generalizing j with
  | nil => simp at h
  | cons p l ih =>
    have e : inums (p :: l) = p.1 :: p.2 :: inums l := rfl
    rw [e]
    cases j with
    | zero => exact ⟨rfl, rfl⟩
    | succ j =>
      have := ih j (by simpa using h)
      rw [show 2 * (j + 1) = 2 * j + 1 + 1 by omega]
      simpa using this
theorem itake_item (l : List IdP) (h : idsOk l = true) : itake (ltree (itrees l)) = some l := by
  have hl : (itrees l).length = 2 * l.length := by simp [itrees, inums_length]
  have hk := idsOk_iff.1 h
  have h2 : l.length ≤ 4096 := hk.2.2
  have e2 : (itrees l).length / 2 = l.length := by omega
  have hg : ∀ j, (hj : j < l.length) → gd (itrees l) j = true ∧ pa (itrees l) j = l[j] := fun j hj => by
    obtain ⟨g1, g2⟩ := inums_get l j hj
    have q1 : (itrees l)[2 * j]? = some (ntree l[j].1) := by unfold itrees; rw [List.getElem?_map, g1]; rfl
    have q2 : (itrees l)[2 * j + 1]? = some (ntree l[j].2) := by unfold itrees; rw [List.getElem?_map, g2]; rfl
    have r1 : (itrees l).getD (2 * j) default = ntree l[j].1 := by simp [List.getD, q1]
    have r2 : (itrees l).getD (2 * j + 1) default = ntree l[j].2 := by simp [List.getD, q2]
    have hr := idRight_iff.1 (hk.1 l[j] (List.getElem_mem hj))
    refine ⟨?_, ?_⟩
    · unfold gd; rw [r1, r2, isN_ntree, isN_ntree]; rfl
    · unfold pa
      rw [r1, r2]
      have e1 : tN (ntree l[j].1) = u64n l[j].1 := rfl
      have e2 : tN (ntree l[j].2) = u64n l[j].2 := rfl
      rw [e1, e2, u64n_of hr.1 (by omega), u64n_of hr.2.2.1 (by omega)]
      refine Prod.ext ?_ ?_
      · show ((clamp l[j].1.toNat : Nat) : Int) = l[j].1
        unfold clamp; omega
      · show ((clamp l[j].2.toNat : Nat) : Int) = l[j].2
        unfold clamp; omega
  have hm : (List.range l.length).map (pa (itrees l)) = l := by
    apply List.ext_getElem
    · simp
    · intro i h1 h2
      simp only [List.getElem_map, List.getElem_range]
      exact (hg i h2).2
  unfold ltree
  rw [itake_mk, e2, hm, if_pos]
  exact ⟨by unfold tkHead; simp [hl]; omega, fun j hj => (hg j hj).1, h⟩
set_option maxHeartbeats 4000000 in
theorem iditems_walk (A : Option Addr) (m c : Nat) (l : List IdP) (t : Tree) (v : Value) (w : World) (h1 : IdsAt w A m l) (hv : Holds w t v) (hsz : tsize t ≤ 1048576) :
    Calls Tryd.prog 3 #[.slice A m c, v] w (Gives w (.bool true)) := by
  have aw := fun W => awake05 W
  have sz : ∀ W, Below w.heap.size w W → Calls Tryd.prog 9 #[v, .int .i64 300, .int .i64 40] W (Gives W (.int .i64 (csize 300 40 t : Int))) := fun W h => refsize_any 300 (by decide) 40 t _ W (Holds.keep h hv) hsz (by decide)
  have ck := fun W (h : Below w.heap.size w W) => check5_any A m c l W (h1.keep h)
  have tk := fun W (h : Below w.heap.size w W) => idstake_ids t v W (Holds.keep h hv)
  have tk5 := fun W (h : Below w.heap.size w W) => reftake5_any t v W (Holds.keep h hv)
  have Hm := Lib.hid h1.1
  obtain ⟨xk, xn, xs, lt⟩ := t
  obtain ⟨xA, xm, xc, rfl, -, -, -, -, -, -, -⟩ := hv.open_
  generalize csize 300 40 (.mk xk xn xs lt) = z at *
  obtain ⟨L, hL⟩ : ∃ L, itake (.mk xk xn xs lt) = L := ⟨_, rfl⟩
  rw [hL] at tk tk5
  have H1 := Lib.hid h1
  clear hv h1 hL hsz
  by_cases g1 : 60 < m
  · have g1' : (60 : Int) < (m : Int) := by omega
    clear sz ck tk tk5
    go_enter Tryd.func3, Tryd.ntmps3
    go_wp2_with (go_at_call 10; (with_reducible refine (aw _).mono ?_); rintro e w1 ⟨rfl, hb1⟩; have hz1 := hb1.size; (try simp at hz1))
    go_ret
    exact ⟨rfl, by ((repeat' first | with_reducible exact Below.refl _ _ | with_reducible assumption | with_reducible refine Below.alloc ?_ ?_ _ | with_reducible refine Below.setCell ?_ ?_ _ | with_reducible apply Below.drew | with_reducible apply below_drewN | with_reducible refine below_call ?_ (by with_reducible assumption) ?_) <;> (first | omega | (simp; done) | (simp; omega) | (simp at *; omega)))⟩
  have g1' : ¬ (60 : Int) < (m : Int) := by omega
  have X0 : Blk (w.alloc (.cells #[.int .i64 xk, .int .u64 (xn : Int), .string xs, .slice xA xm xc] 26)) w.heap.size 26 #[.int .i64 xk, .int .u64 (xn : Int), .string xs, .slice xA xm xc] := Blk.new w _ _
  have k0 : Below w.heap.size w (w.alloc (.cells #[.int .i64 xk, .int .u64 (xn : Int), .string xs, .slice xA xm xc] 26)) := below_one _
  by_cases g2 : 300 < z
  · have g2' : (300 : Int) < (z : Int) := by omega
    clear ck tk tk5
    go_enter Tryd.func3, Tryd.ntmps3
    go_wp2_with (first | (go_at_call 9; (with_reducible refine (sz _ k0).mono ?_); rintro e w1 ⟨rfl, hb1⟩; have k1 := below_call k0 hb1 k0.size) | (go_at_call 10; (with_reducible refine (aw _).mono ?_); rintro e w2 ⟨rfl, hb2⟩; have k2 := below_call k1 hb2 k1.size))
    go_ret
    exact ⟨rfl, k2⟩
  have g2' : ¬ (300 : Int) < (z : Int) := by omega
  unfold TkIds at tk tk5
  have e5 := fun W A c A2 c2 (i1 : IdsAt W A (L.getD []).length (L.getD [])) (i2 : IdsAt W A2 (L.getD []).length (L.getD [])) => equal5_any A A2 _ c _ c2 _ _ W i1 i2
  rw [show lseq (L.getD []) (L.getD []) = true from decide_eq_true rfl] at e5
  generalize L.getD [] = G at *
  generalize L.isSome = b at *
  have TK := Lib.hid tk
  have TK5 := Lib.hid tk5
  have E5 := Lib.hid e5
  clear tk tk5 e5
  have hbb : (b == b) = true := by cases b <;> rfl
  by_cases hok : idsOk l = true
  case neg =>
    have hok' : idsOk l = false := by simpa using hok
    rw [hok'] at ck
    go_enter Tryd.func3, Tryd.ntmps3
    go_upto_region 8 with (first
      | (go_at_call 9; (with_reducible refine (sz _ k0).mono ?_); rintro e w1 ⟨rfl, hb1⟩; have k1 := below_call k0 hb1 k0.size; have X1 := X0.keep hb1)
      | (go_at_call 11; (with_reducible refine (ck _ k1).mono ?_); rintro e w2 ⟨rfl, hb2⟩; have kk := below_call k1 hb2 k1.size; have XX := X1.keep hb2; have xx := XX.cell))
    clear X0 X1 k0 k1
    go_wp2_with (first
      | (go_at_call 13; (with_reducible refine (TK.out _ kk).mono ?_); clear TK; rintro e w7 ⟨A7, c7, rfl, i7, -, hb7⟩; have k7 := below_call kk hb7 kk.size; have X7 := XX.keep hb7; have x7 := X7.cell)
      | (go_at_call 17; (with_reducible refine (TK5.out _ k7).mono ?_); clear TK5; rintro e w8 ⟨A8, c8, rfl, i8, -, hb8⟩; have k8 := below_call k7 hb8 k7.size; have i78 := i7.keep hb8)
      | (go_at_call 16; (with_reducible refine (E5.out _ _ _ _ _ i78 i8).mono ?_); clear E5; rintro e w9 ⟨rfl, hb9⟩; have k9 := below_call k8 hb9 k8.size)
      | (go_at_call 10; (with_reducible refine (aw _).mono ?_); rintro e w10 ⟨rfl, hb10⟩; have k10 := below_call k9 hb10 k9.size))
    go_ret
    exact ⟨rfl, k10⟩
  · rw [hok] at ck
    have hm := Hm.out
    have hm60 : l.length ≤ 60 := by omega
    have it := fun W (h : Below w.heap.size w W) => idsitem_any A m c l W (H1.out.keep h) (by omega)
    have rit := fun W (h : Below w.heap.size w W) => refidsitem_any A m c l W (H1.out.keep h) (by omega)
    have ty := fun v W (h : Holds W (ltree (itrees l)) v) => idstake_ids (ltree (itrees l)) v W h
    rw [itake_item l hok] at ty
    unfold TkIds at ty
    simp only [Option.getD_some, Option.isSome_some] at ty
    have sm := fun v x W (h : Holds W (ltree (itrees l)) v) (h2 : Holds W (ltree (itrees l)) x) => codecsame_any (ltree (itrees l)) (ltree (itrees l)) v x W h h2
    rw [tsame_self] at sm
    have e6 := fun W A c A2 c2 (i1 : IdsAt W A m l) (i2 : IdsAt W A2 m l) => equal5_any A A2 m c m c2 l l W i1 i2
    rw [show lseq l l = true from decide_eq_true rfl] at e6
    rw [← hm] at ty
    unfold listV at it rit
    have IT := Lib.hid it
    have RIT := Lib.hid rit
    have TY := Lib.hid ty
    have SM := Lib.hid sm
    have E6 := Lib.hid e6
    clear it rit ty sm e6 hok hm60 hm
    go_enter Tryd.func3, Tryd.ntmps3
    go_upto_region 6 with (first
      | (go_at_call 9; (with_reducible refine (sz _ k0).mono ?_); rintro e w1 ⟨rfl, hb1⟩; have k1 := below_call k0 hb1 k0.size; have X1 := X0.keep hb1)
      | (go_at_call 11; (with_reducible refine (ck _ k1).mono ?_); rintro e w2 ⟨rfl, hb2⟩; have k2 := below_call k1 hb2 k1.size; have X2 := X1.keep hb2)
      | (go_at_call 12; (with_reducible refine (IT.out _ k2).mono ?_); rintro e w3 ⟨A3, c3, rfl, hi3, hb3⟩; have k3 := below_call k2 hb3 k2.size; have X3 := X2.keep hb3; have k4 : Below w.heap.size w (w3.alloc (.cells #[.int .i64 2, .int .u64 0, .string ByteArray.empty, .slice A3 (2 * m) c3] 26)) := k3.alloc k3.size _; have X4 := X3.alloc (.cells #[.int .i64 2, .int .u64 0, .string ByteArray.empty, .slice A3 (2 * m) c3] 26); have Y4 := Blk.new w3 26 #[.int .i64 2, .int .u64 0, .string ByteArray.empty, .slice A3 (2 * m) c3]; have hy4 := hi3.holds.keep (below_one (.cells #[.int .i64 2, .int .u64 0, .string ByteArray.empty, .slice A3 (2 * m) c3] 26)))
      | (go_at_call 13; (with_reducible refine (TY.out _ _ hy4).mono ?_); clear TY; rintro e w5 ⟨A5, c5, rfl, i5, -, hb5⟩; have k5 := below_call k4 hb5 k4.size; have X5 := X4.keep hb5; have Y5 := Y4.keep hb5; have hy5 := hy4.keep hb5))
    have XD := X5.drew
    have YD := Y5.drew
    have kd : Below w.heap.size w w5.drew := k5.drew
    have hyd := hy5.keep (Below.refl w5.heap.size w5).drew
    have id := i5.keep (Below.refl w5.heap.size w5).drew
    clear X0 X1 X2 X3 X4 X5 Y4 Y5 k0 k1 k2 k3 k4 k5 hi3 hy4 hy5 i5
    (refine wp_region_held_drew (S := (S1 w3.heap.size #[.int .i64 2, .int .u64 0, .string ByteArray.empty, .slice A3 (2 * m) c3])) (by kernel_rfl) ?_ (fun hHeld => ?_); (· exact YD.cell))
    revert hHeld XD YD kd hyd id
    generalize World.drew _ = wd
    intro XD YD kd hyd id hHeld
    (refine take_op (i := 0) (v := ?_) rfl (by kernel_rfl) (by kernel_rfl) (by kernel_rfl) (fun _ _ _ h => h) (by rfl) ?_ hHeld ?_; rotate_left; (· (intro wS hSw; (try dsimp only at hSw); go_simp; first | done | with_reducible rfl)); simp only [Act.put, List.setIfInBounds_toArray, List.set_cons_zero, List.set_cons_succ]); (refine take_op (i := 1) (v := ?_) rfl (by kernel_rfl) (by kernel_rfl) (by kernel_rfl) (fun _ _ _ h => h) (by rfl) ?_ hHeld ?_; rotate_left; (· (intro wS hSw; (try dsimp only at hSw); go_simp; first | done | with_reducible rfl)); simp only [Act.put, List.setIfInBounds_toArray, List.set_cons_zero, List.set_cons_succ])
    (refine call_op (i := 2) rfl (by kernel_rfl) (by rfl) (fun K hK => ?_); go_simp; (go_at_call 15; (with_reducible refine (RIT.out _ kd).mono ?_); clear RIT; rintro e w6 ⟨A6, c6, rfl, hi6, hb6⟩; have XE := XD.keep hb6; have YE := YD.keep hb6; have ke := below_call kd hb6 kd.size; have hye := hyd.keep hb6; have ie := id.keep hb6); refine hK.out _ _ YE.cell (fun hHeld2 => ?_); clear hK K hHeld; have hHeld := hHeld2; clear hHeld2; (try simp only [Act.put, List.setIfInBounds_toArray, List.set_cons_zero, List.set_cons_succ]))
    (refine call_op (i := 3) rfl (by kernel_rfl) (by rfl) (fun K hK => ?_); go_simp; (go_at_call 14; (with_reducible refine (SM.out _ _ _ hye hi6.holds).mono ?_); clear SM; rintro e w7 ⟨rfl, hb7⟩; have XG := XE.keep hb7; have YG := YE.keep hb7; have kg := below_call ke hb7 ke.size; have ig := ie.keep hb7); refine hK.out _ _ YG.cell (fun hHeld2 => ?_); clear hK K hHeld; have hHeld := hHeld2; clear hHeld2; (try simp only [Act.put, List.setIfInBounds_toArray, List.set_cons_zero, List.set_cons_succ]))
    (refine take_op (i := 4) (v := ?_) rfl (by kernel_rfl) (by kernel_rfl) (by kernel_rfl) (fun _ _ _ h => h) (by rfl) ?_ hHeld ?_; rotate_left; (· (intro wS hSw; (try dsimp only at hSw); go_simp; first | done | with_reducible rfl)); simp only [Act.put, List.setIfInBounds_toArray, List.set_cons_zero, List.set_cons_succ]); (refine take_op (i := 5) (v := ?_) rfl (by kernel_rfl) (by kernel_rfl) (by kernel_rfl) (fun _ _ _ h => h) (by rfl) ?_ hHeld ?_; rotate_left; (· (intro wS hSw; (try dsimp only at hSw); go_simp; first | done | with_reducible rfl)); simp only [Act.put, List.setIfInBounds_toArray, List.set_cons_zero, List.set_cons_succ]); (refine take_op (i := 6) (v := ?_) rfl (by kernel_rfl) (by kernel_rfl) (by kernel_rfl) (fun _ _ _ h => h) (by rfl) ?_ hHeld ?_; rotate_left; (· (intro wS hSw; (try dsimp only at hSw); go_simp; first | done | with_reducible rfl)); simp only [Act.put, List.setIfInBounds_toArray, List.set_cons_zero, List.set_cons_succ]); (refine take_op (i := 7) (v := ?_) rfl (by kernel_rfl) (by kernel_rfl) (by kernel_rfl) (fun _ _ _ h => h) (by rfl) ?_ hHeld ?_; rotate_left; (· (intro wS hSw; (try dsimp only at hSw); go_simp; first | done | with_reducible rfl)); simp only [Act.put, List.setIfInBounds_toArray, List.set_cons_zero, List.set_cons_succ]); (refine take_op (i := 8) (v := ?_) rfl (by kernel_rfl) (by kernel_rfl) (by kernel_rfl) (fun _ _ _ h => h) (by rfl) ?_ hHeld ?_; rotate_left; (· (intro wS hSw; (try dsimp only at hSw); go_simp; first | done | with_reducible rfl)); simp only [Act.put, List.setIfInBounds_toArray, List.set_cons_zero, List.set_cons_succ]); (refine take_op (i := 9) (v := ?_) rfl (by kernel_rfl) (by kernel_rfl) (by kernel_rfl) (fun _ _ _ h => h) (by rfl) ?_ hHeld ?_; rotate_left; (· (intro wS hSw; (try dsimp only at hSw); go_simp; first | done | with_reducible rfl)); simp only [Act.put, List.setIfInBounds_toArray, List.set_cons_zero, List.set_cons_succ]); (refine take_op (i := 10) (v := ?_) rfl (by kernel_rfl) (by kernel_rfl) (by kernel_rfl) (fun _ _ _ h => h) (by rfl) ?_ hHeld ?_; rotate_left; (· (intro wS hSw; (try dsimp only at hSw); go_simp; first | done | with_reducible rfl)); simp only [Act.put, List.setIfInBounds_toArray, List.set_cons_zero, List.set_cons_succ]); (refine take_op (i := 11) (v := ?_) rfl (by kernel_rfl) (by kernel_rfl) (by kernel_rfl) (fun _ _ _ h => h) (by rfl) ?_ hHeld ?_; rotate_left; (· (intro wS hSw; (try dsimp only at hSw); go_simp; first | done | with_reducible rfl)); simp only [Act.put, List.setIfInBounds_toArray, List.set_cons_zero, List.set_cons_succ])
    (refine call_op (i := 12) rfl (by kernel_rfl) (by rfl) (fun K hK => ?_); go_simp; (go_at_call 16; (with_reducible refine (E6.out _ _ _ _ _ (H1.out.keep kg) ig).mono ?_); clear E6; rintro e w8 ⟨rfl, hb8⟩; have XX := XG.keep hb8; have YH := YG.keep hb8; have kk := below_call kg hb8 kg.size); refine hK.out _ _ YH.cell (fun hHeld2 => ?_); clear hK K hHeld; have hHeld := hHeld2; clear hHeld2; (try simp only [Act.put, List.setIfInBounds_toArray, List.set_cons_zero, List.set_cons_succ]))
    (refine take_op (i := 13) (v := ?_) rfl (by kernel_rfl) (by kernel_rfl) (by kernel_rfl) (fun _ _ _ h => h) (by rfl) ?_ hHeld ?_; rotate_left; (· (intro wS hSw; (try dsimp only at hSw); go_simp; first | done | with_reducible rfl)); simp only [Act.put, List.setIfInBounds_toArray, List.set_cons_zero, List.set_cons_succ]); (refine take_op (i := 14) (v := ?_) rfl (by kernel_rfl) (by kernel_rfl) (by kernel_rfl) (fun _ _ _ h => h) (by rfl) ?_ hHeld ?_; rotate_left; (· (intro wS hSw; (try dsimp only at hSw); go_simp; first | done | with_reducible rfl)); simp only [Act.put, List.setIfInBounds_toArray, List.set_cons_zero, List.set_cons_succ])
    (refine wpAnyH_done (by kernel_rfl) ?_ _)
    have xx := XX.cell
    clear hHeld XD YD kd hyd id XE YE ke hye ie XG YG kg ig YH hi6
    go_wp2_with (first
      | (go_at_call 13; (with_reducible refine (TK.out _ kk).mono ?_); clear TK; rintro e w7 ⟨A7, c7, rfl, i7, -, hb7⟩; have k7 := below_call kk hb7 kk.size; have X7 := XX.keep hb7; have x7 := X7.cell)
      | (go_at_call 17; (with_reducible refine (TK5.out _ k7).mono ?_); clear TK5; rintro e w8 ⟨A8, c8, rfl, i8, -, hb8⟩; have k8 := below_call k7 hb8 k7.size; have i78 := i7.keep hb8)
      | (go_at_call 16; (with_reducible refine (E5.out _ _ _ _ _ i78 i8).mono ?_); clear E5; rintro e w9 ⟨rfl, hb9⟩; have k9 := below_call k8 hb9 k8.size)
      | (go_at_call 10; (with_reducible refine (aw _).mono ?_); rintro e w10 ⟨rfl, hb10⟩; have k10 := below_call k9 hb10 k9.size))
    go_ret
    exact ⟨rfl, k10⟩
end Go.Proofs.YtfdfcceleaodaaaDoor
