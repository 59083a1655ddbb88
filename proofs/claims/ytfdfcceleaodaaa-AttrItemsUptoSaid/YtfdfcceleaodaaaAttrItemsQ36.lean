/- The walks of the document's Take and TakeOld of what an instance hangs on, at any item. -/
import Derived.Test.YtfdfcceleaodaaaAttrItemsQ26
import Derived.Test.YtfdfcceleaodaaaAttrItemsQ34
import Derived.Test.YtfdfcceleaodaaaAttrItemsQ35
import Derived.Test.YtfdfcceleaodaaaAttrItemsQ30
import Derived.WalkKit
import Derived.WalkSpells
import Derived.WalkLawsBesides
import Derived.Deep.RegionHeld3
import Derived.Deep.DrawnRows
import Derived.Deep.DeepCutAuto
import Derived.Deep.DeepFit
import Derived.Lib.Hide
import Derived.BigQuiet
import Derived.Deep.QuietTactic
namespace Go.Proofs.Ytfdfcceleaodaaa
open Go.RowKit
set_option linter.unusedVariables false
set_option linter.unusedSimpArgs false
set_option maxRecDepth 20000
attribute [local go_sem ↓] Go.wp_at_zero Go.wp_at_succ
attribute [local go_sem] World.cell?_alloc_some frozen_alloc_some
attribute [local go_sem] lt2 lt3 lt4 lt5
attribute [local simp] lt2 lt3 lt4 lt5

set_option maxHeartbeats 1000000 in
theorem refint_any (t : Tree) (v : Value) (w : World) (hv : Holds w t v) : Calls Try.prog 34 #[v] w (Gives w (.int .i64 (clamp (tN t) : Int))) := by
  obtain ⟨k, n, s, l⟩ := t
  obtain ⟨A, m, c, rfl, -, hn, -⟩ := hv.open_
  clear hv
  by_cases h : 4611686018427387904 < n
  · have h' : (4611686018427387904 : Int) < (n : Int) := by omega
    have e : (clamp (tN (.mk k n s l)) : Int) = 4611686018427387904 := by show ((clamp n : Nat) : Int) = _; unfold clamp; omega
    rw [e]
    go_enter Try.func34, Try.ntmps34
    go_wp2_with fail
    go_ret
    exact ⟨rfl, by ((repeat' first | with_reducible exact Below.refl _ _ | with_reducible assumption | with_reducible refine Below.alloc ?_ ?_ _ | with_reducible refine Below.setCell ?_ ?_ _ | with_reducible apply Below.drew | with_reducible apply below_drewN | with_reducible refine below_call ?_ (by with_reducible assumption) ?_) <;> (first | omega | (simp; done) | (simp; omega) | (simp at *; omega)))⟩
  · have h' : ¬ (4611686018427387904 : Int) < (n : Int) := by omega
    have e : (clamp (tN (.mk k n s l)) : Int) = n := by show ((clamp n : Nat) : Int) = _; unfold clamp; omega
    have hw : IntKind.i64.wrap (n : Int) = (n : Int) := IntWalk.i64_in _ (by omega)
    rw [e]
    clear e
    go_enter Try.func34, Try.ntmps34
    go_wp2_with fail
    go_ret
    exact ⟨by first | rfl | simp, by ((repeat' first | with_reducible exact Below.refl _ _ | with_reducible assumption | with_reducible refine Below.alloc ?_ ?_ _ | with_reducible refine Below.setCell ?_ ?_ _ | with_reducible apply Below.drew | with_reducible apply below_drewN | with_reducible refine below_call ?_ (by with_reducible assumption) ?_) <;> (first | omega | (simp; done) | (simp; omega) | (simp at *; omega)))⟩
set_option maxHeartbeats 4000000 in
theorem refattrtakeold_many (k : Int) (n : Nat) (s : ByteArray) (A : Option Addr) (m c : Nat) (w : World) (hm : m ≠ 2) :
    Calls Try.prog 16 #[.agg #[.int .i64 k, .int .u64 (n : Int), .string s, .slice A m c]] w (Gives w (.tuple #[.agg #[.slice none 0 0, .int .i64 0, .int .i64 0], .bool false])) := by
  have g1 : ((m : Int) != 2) = true := by simp; omega
  go_enter Try.func16, Try.ntmps16
  go_wp2_with fail
  refine bodyPost_ret (v := .tuple #[.agg #[.slice none 0 0, .int .i64 0, .int .i64 0], .bool false]) (by simp [results, Try.results16, go_sem, *] <;> rfl) rfl ?_
  exact ⟨rfl, by ((repeat' first | with_reducible exact Below.refl _ _ | with_reducible assumption | with_reducible refine Below.alloc ?_ ?_ _ | with_reducible refine Below.setCell ?_ ?_ _ | with_reducible apply Below.drew | with_reducible apply below_drewN | with_reducible refine below_call ?_ (by with_reducible assumption) ?_) <;> (first | omega | (simp; done) | (simp; omega) | (simp at *; omega)))⟩
set_option maxHeartbeats 8000000 in
theorem refattrtakeold_good (k : Int) (n : Nat) (s : ByteArray) (A : Option Addr) (c : Nat) (t0 t1 : Tree) (w : World) (hv : Holds w (.mk k n s [t0, t1]) (.agg #[.int .i64 k, .int .u64 (n : Int), .string s, .slice A 2 c])) :
    Calls Try.prog 16 #[.agg #[.int .i64 k, .int .u64 (n : Int), .string s, .slice A 2 c]] w (TkA w (otake (.mk k n s [t0, t1]))) := by
  obtain ⟨eb, eo, rfl, hrow⟩ := hv.items.rows (by simp)
  obtain ⟨k0, n0, s0, A0, m0, c0, h0, p00, p01, p02, p03, hn0⟩ := hrow 0 t0 rfl
  simp only [Nat.reduceMul, Nat.add_zero, Nat.add_assoc, Nat.reduceAdd] at p00 p01 p02 p03
  obtain ⟨k1, n1, s1, A1, m1, c1, h1, p10, p11, p12, p13, hn1⟩ := hrow 1 t1 rfl
  simp only [Nat.reduceMul, Nat.add_zero, Nat.add_assoc, Nat.reduceAdd] at p10 p11 p12 p13
  have hid := fun W (hb : Below w.heap.size w W) => reftake5_any t1 _ W (h1.keep hb)
  have hnu0 := fun W (hb : Below w.heap.size w W) => refint_any t0 _ W (h0.keep hb)
  rw [hn0] at hnu0
  obtain ⟨J, hJ⟩ : ∃ J, itake t1 = J := ⟨_, rfl⟩
  rw [hJ] at hid
  unfold TkIds at hid
  have hw := fun l h => itake_wf (t := t1) (l := l) h
  rw [hJ] at hw
  have hplain : otake (.mk k n s [t0, t1]) = aTk J.isSome (J.getD []) (clamp n0 : Int) 1 (.mk k n s [t0, t1]) (otree (J.getD []) (clamp n0)) := by rw [← hJ, ← hn0]; rfl
  rw [hplain]
  unfold aTk
  have hl4 : (J.getD []).length ≤ 1000000 := by cases J with | none => simp | some j => have := (hw _ rfl).2.1; simp; omega
  generalize J.getD [] = G at *
  generalize J.isSome = b at *
  have hck := fun W A' c' (hi : IdsAt W A' G.length G) => check7_any A' G.length c' (clamp n0 : Int) 1 G W hi
  have hit := fun W A' c' (hi : IdsAt W A' G.length G) => refattrold_any A' G.length c' (clamp n0 : Int) 1 G W hi hl4
  have hsm := fun x W (hb : Below w.heap.size w W) (hx : Holds W (otree G (clamp n0)) x) => resame_any (.mk k n s [t0, t1]) (otree G (clamp n0)) _ x W (hv.keep hb) hx
  obtain ⟨R, hR⟩ : ∃ R, tsame (.mk k n s [t0, t1]) (otree G (clamp n0)) = R := ⟨_, rfl⟩
  rw [hR] at hsm ⊢
  obtain ⟨g7, hg7⟩ : ∃ g, acheck ⟨G, (clamp n0 : Int), 1⟩ = g := ⟨_, rfl⟩
  rw [hg7] at hck ⊢
  obtain ⟨RES, hRES⟩ : ∃ r, (if (b && decide (g7 = 0) && R) = true then some (AttrP.mk G (clamp n0 : Int) 1) else none) = r := ⟨_, rfl⟩
  rw [hRES]
  unfold listV at hit
  have HRES := Lib.hid hRES
  have Hid := Lib.hid hid
  have Hck := Lib.hid hck
  have Hit := Lib.hid hit
  have Hsm := Lib.hid hsm
  clear hid hck hit hsm hR hg7 hplain hJ hv hrow hw hl4 hRES
  have Hnu0 := Lib.hid hnu0
  clear hnu0 hn0
  clear h0 h1 hn1
  have X0 : Blk ((w.alloc (.cells #[.int .i64 k, .int .u64 (n : Int), .string s, .slice (some ⟨eb, eo, none⟩) 2 c] 28)).alloc (.cells #[.slice none 0 0, .int .i64 0, .int .i64 0] 24)) w.heap.size 28 #[.int .i64 k, .int .u64 (n : Int), .string s, .slice (some ⟨eb, eo, none⟩) 2 c] := (Blk.new w _ _).alloc _
  have R0 : Blk ((w.alloc (.cells #[.int .i64 k, .int .u64 (n : Int), .string s, .slice (some ⟨eb, eo, none⟩) 2 c] 28)).alloc (.cells #[.slice none 0 0, .int .i64 0, .int .i64 0] 24)) (w.heap.size + 1) 24 #[.slice none 0 0, .int .i64 0, .int .i64 0] := Blk.newAt (by simp)
  have k0 : Below w.heap.size w ((w.alloc (.cells #[.int .i64 k, .int .u64 (n : Int), .string s, .slice (some ⟨eb, eo, none⟩) 2 c] 28)).alloc (.cells #[.slice none 0 0, .int .i64 0, .int .i64 0] 24)) := by ((repeat' first | with_reducible exact Below.refl _ _ | with_reducible assumption | with_reducible refine Below.alloc ?_ ?_ _ | with_reducible refine Below.setCell ?_ ?_ _ | with_reducible apply Below.drew | with_reducible apply below_drewN | with_reducible refine below_call ?_ (by with_reducible assumption) ?_) <;> (first | omega | (simp; done) | (simp; omega) | (simp at *; omega)))
  have x0 := X0.cell
  have z00 := cell_keep k0 p00
  have z01 := cell_keep k0 p01
  have z02 := cell_keep k0 p02
  have z03 := cell_keep k0 p03
  have z10 := cell_keep k0 p10
  have z11 := cell_keep k0 p11
  have z12 := cell_keep k0 p12
  have z13 := cell_keep k0 p13
  go_enter Try.func16, Try.ntmps16
  go_upto_region 5 with (first
    | (go_at_call 33; (with_reducible refine (Hid.out _ k0).mono ?_); rintro e w1 ⟨A9, c9, rfl, i9', le9, hb1⟩; have i9 := Lib.hid i9'; clear i9'; have PX := X0.keep hb1; have PR := R0.keep hb1; have kk := below_call k0 hb1 k0.size; have kb1 := Below.refl w1.heap.size w1; have z1 : w.heap.size + 2 ≤ w1.heap.size := PR.lt; clear x0 X0 R0 k0 z00 z01 z02 z03 z10 z11 z12 z13; have px := PX.cell; have y00 := cell_keep kk p00; have y01 := cell_keep kk p01; have y02 := cell_keep kk p02; have y03 := cell_keep kk p03; have y10 := cell_keep kk p10; have y11 := cell_keep kk p11; have y12 := cell_keep kk p12; have y13 := cell_keep kk p13)
    | (go_at_call 34; (with_reducible refine (Hnu0.out _ kk).mono ?_); rintro e w2 ⟨rfl, hb2⟩; replace PX := PX.keep hb2; replace PR := PR.keep hb2; replace kb1 := below_call kb1 hb2 kb1.size; replace kk := below_call kk hb2 kk.size; clear px y00 y01 y02 y03 y10 y11 y12 y13))
  have P6 : Blk (w2.alloc (.cells #[.slice A9 G.length c9, .int .i64 (clamp n0 : Int), .int .i64 1] 24)) w2.heap.size 24 #[.slice A9 G.length c9, .int .i64 (clamp n0 : Int), .int .i64 1] := Blk.new w2 _ _
  replace PX := PX.alloc (.cells #[.slice A9 G.length c9, .int .i64 (clamp n0 : Int), .int .i64 1] 24)
  have hz6 : w1.heap.size ≤ w2.heap.size := kb1.size
  replace PR := PR.alloc (.cells #[.slice A9 G.length c9, .int .i64 (clamp n0 : Int), .int .i64 1] 24)
  replace kb1 := kb1.alloc kb1.size (.cells #[.slice A9 G.length c9, .int .i64 (clamp n0 : Int), .int .i64 1] 24)
  replace kk := kk.alloc kk.size (.cells #[.slice A9 G.length c9, .int .i64 (clamp n0 : Int), .int .i64 1] 24)
  revert P6 PX hz6 PR kb1 kk
  generalize World.alloc w2 _ = W4
  generalize w2.heap.size = g6
  intro P6 PX hz6 PR kb1 kk
  cases b
  · have QX := PX.drew
    have QR := PR.drew
    have Q6 := P6.drew
    have q1 := kb1.drew
    have qk := kk.drew
    (refine wp_region_held_drew (S := (S11 w.heap.size g6 #[.int .i64 k, .int .u64 (n : Int), .string s, .slice (some ⟨eb, eo, none⟩) 2 c] #[.slice A9 G.length c9, .int .i64 (clamp n0 : Int), .int .i64 1])) (by kernel_rfl) ?_ (fun hHeld => ?_); (· exact ⟨QX.cell, Q6.cell⟩))
    revert hHeld QX QR Q6 q1 qk
    generalize World.drew _ = wd
    intro QX QR Q6 q1 qk hHeld
    (refine take_op (i := 0) (v := ?_) rfl (by kernel_rfl) (by kernel_rfl) (by kernel_rfl) (fun _ _ _ h => h) (by rfl) ?_ hHeld ?_; rotate_left; (· (intro wS hSw; (try dsimp only at hSw); go_simp; first | done | with_reducible rfl)); simp only [Act.put, List.setIfInBounds_toArray, List.set_cons_zero, List.set_cons_succ]); (refine take_op (i := 1) (v := ?_) rfl (by kernel_rfl) (by kernel_rfl) (by kernel_rfl) (fun _ _ _ h => h) (by rfl) ?_ hHeld ?_; rotate_left; (· (intro wS hSw; (try dsimp only at hSw); go_simp; first | done | with_reducible rfl)); simp only [Act.put, List.setIfInBounds_toArray, List.set_cons_zero, List.set_cons_succ]); (refine take_op (i := 2) (v := ?_) rfl (by kernel_rfl) (by kernel_rfl) (by kernel_rfl) (fun _ _ _ h => h) (by rfl) ?_ hHeld ?_; rotate_left; (· (intro wS hSw; (try dsimp only at hSw); go_simp; first | done | with_reducible rfl)); simp only [Act.put, List.setIfInBounds_toArray, List.set_cons_zero, List.set_cons_succ])
    (refine skip_op (i := 3) rfl (by kernel_rfl) (by kernel_rfl) (by kernel_rfl) (fun _ _ _ h => h) (by rfl) hHeld ?_; simp only [Act.put, List.setIfInBounds_toArray, List.set_cons_zero, List.set_cons_succ]); (refine skip_op (i := 4) rfl (by kernel_rfl) (by kernel_rfl) (by kernel_rfl) (fun _ _ _ h => h) (by rfl) hHeld ?_; simp only [Act.put, List.setIfInBounds_toArray, List.set_cons_zero, List.set_cons_succ]); (refine skip_op (i := 5) rfl (by kernel_rfl) (by kernel_rfl) (by kernel_rfl) (fun _ _ _ h => h) (by rfl) hHeld ?_; simp only [Act.put, List.setIfInBounds_toArray, List.set_cons_zero, List.set_cons_succ])
    (refine take_op (i := 6) (v := ?_) rfl (by kernel_rfl) (by kernel_rfl) (by kernel_rfl) (fun _ _ _ h => h) (by rfl) ?_ hHeld ?_; rotate_left; (· (intro wS hSw; (try dsimp only at hSw); go_simp; first | done | with_reducible rfl)); simp only [Act.put, List.setIfInBounds_toArray, List.set_cons_zero, List.set_cons_succ]); (refine take_op (i := 7) (v := ?_) rfl (by kernel_rfl) (by kernel_rfl) (by kernel_rfl) (fun _ _ _ h => h) (by rfl) ?_ hHeld ?_; rotate_left; (· (intro wS hSw; (try dsimp only at hSw); go_simp; first | done | with_reducible rfl)); simp only [Act.put, List.setIfInBounds_toArray, List.set_cons_zero, List.set_cons_succ])
    (refine skip_op (i := 8) rfl (by kernel_rfl) (by kernel_rfl) (by kernel_rfl) (fun _ _ _ h => h) (by rfl) hHeld ?_; simp only [Act.put, List.setIfInBounds_toArray, List.set_cons_zero, List.set_cons_succ]); (refine skip_op (i := 9) rfl (by kernel_rfl) (by kernel_rfl) (by kernel_rfl) (fun _ _ _ h => h) (by rfl) hHeld ?_; simp only [Act.put, List.setIfInBounds_toArray, List.set_cons_zero, List.set_cons_succ]); (refine skip_op (i := 10) rfl (by kernel_rfl) (by kernel_rfl) (by kernel_rfl) (fun _ _ _ h => h) (by rfl) hHeld ?_; simp only [Act.put, List.setIfInBounds_toArray, List.set_cons_zero, List.set_cons_succ]); (refine skip_op (i := 11) rfl (by kernel_rfl) (by kernel_rfl) (by kernel_rfl) (fun _ _ _ h => h) (by rfl) hHeld ?_; simp only [Act.put, List.setIfInBounds_toArray, List.set_cons_zero, List.set_cons_succ]); (refine skip_op (i := 12) rfl (by kernel_rfl) (by kernel_rfl) (by kernel_rfl) (fun _ _ _ h => h) (by rfl) hHeld ?_; simp only [Act.put, List.setIfInBounds_toArray, List.set_cons_zero, List.set_cons_succ])
    (refine take_op (i := 13) (v := ?_) rfl (by kernel_rfl) (by kernel_rfl) (by kernel_rfl) (fun _ _ _ h => h) (by rfl) ?_ hHeld ?_; rotate_left; (· (intro wS hSw; (try dsimp only at hSw); go_simp; first | done | with_reducible rfl)); simp only [Act.put, List.setIfInBounds_toArray, List.set_cons_zero, List.set_cons_succ])
    (refine wpAnyH_done (by kernel_rfl) ?_ _)
    have QRc := QR.cell
    have QRf := QR.frozen
    have Q6c := Q6.cell
    clear hHeld
    go_wp2_with fail
    refine bodyPost_ret (v := .tuple #[.agg #[.slice none 0 0, .int .i64 0, .int .i64 0], .bool false]) (by simp [results, Try.results16, go_sem, *] <;> rfl) rfl ?_
    obtain rfl := HRES.out
    exact ⟨none, 0, by first | rfl | simp [azero], IdsAt.nil, ⟨Nat.le_refl _, fun ad h => (by cases h)⟩, by ((repeat' first | with_reducible exact Below.refl _ _ | with_reducible assumption | with_reducible refine Below.alloc ?_ ?_ _ | with_reducible refine Below.setCell ?_ ?_ _ | with_reducible apply Below.drew | with_reducible apply below_drewN | with_reducible refine below_call ?_ (by with_reducible assumption) ?_) <;> (first | omega | (simp; done) | (simp; omega) | (simp at *; omega)))⟩
  · by_cases z7 : g7 = 0
    case neg =>
      have z7' : ((g7 : Int) != 0) = true := by simp; omega
      rw [decide_eq_false z7] at HRES
      have QX := PX.drew
      have QR := PR.drew
      have Q6 := P6.drew
      have q1 := kb1.drew
      have qk := kk.drew
      (refine wp_region_held_drew (S := (S11 w.heap.size g6 #[.int .i64 k, .int .u64 (n : Int), .string s, .slice (some ⟨eb, eo, none⟩) 2 c] #[.slice A9 G.length c9, .int .i64 (clamp n0 : Int), .int .i64 1])) (by kernel_rfl) ?_ (fun hHeld => ?_); (· exact ⟨QX.cell, Q6.cell⟩))
      revert hHeld QX QR Q6 q1 qk
      generalize World.drew _ = wd
      intro QX QR Q6 q1 qk hHeld
      (refine take_op (i := 0) (v := ?_) rfl (by kernel_rfl) (by kernel_rfl) (by kernel_rfl) (fun _ _ _ h => h) (by rfl) ?_ hHeld ?_; rotate_left; (· (intro wS hSw; (try dsimp only at hSw); go_simp; first | done | with_reducible rfl)); simp only [Act.put, List.setIfInBounds_toArray, List.set_cons_zero, List.set_cons_succ]); (refine take_op (i := 1) (v := ?_) rfl (by kernel_rfl) (by kernel_rfl) (by kernel_rfl) (fun _ _ _ h => h) (by rfl) ?_ hHeld ?_; rotate_left; (· (intro wS hSw; (try dsimp only at hSw); go_simp; first | done | with_reducible rfl)); simp only [Act.put, List.setIfInBounds_toArray, List.set_cons_zero, List.set_cons_succ]); (refine take_op (i := 2) (v := ?_) rfl (by kernel_rfl) (by kernel_rfl) (by kernel_rfl) (fun _ _ _ h => h) (by rfl) ?_ hHeld ?_; rotate_left; (· (intro wS hSw; (try dsimp only at hSw); go_simp; first | done | with_reducible rfl)); simp only [Act.put, List.setIfInBounds_toArray, List.set_cons_zero, List.set_cons_succ]); (refine take_op (i := 3) (v := ?_) rfl (by kernel_rfl) (by kernel_rfl) (by kernel_rfl) (fun _ _ _ h => h) (by rfl) ?_ hHeld ?_; rotate_left; (· (intro wS hSw; (try dsimp only at hSw); go_simp; first | done | with_reducible rfl)); simp only [Act.put, List.setIfInBounds_toArray, List.set_cons_zero, List.set_cons_succ])
      (refine call_op (i := 4) rfl (by kernel_rfl) (by rfl) (fun K hK => ?_); go_simp; (go_at_call 7; (with_reducible refine (Hck.out _ _ _ (i9.out.keep q1)).mono ?_); rintro e w5 ⟨rfl, hb5⟩; replace QX := QX.keep hb5; replace QR := QR.keep hb5; replace Q6 := Q6.keep hb5; replace q1 := below_call q1 hb5 q1.size; replace qk := below_call qk hb5 qk.size); refine hK.out _ _ ⟨QX.cell, Q6.cell⟩ (fun hHeld2 => ?_); clear hK K hHeld; have hHeld := hHeld2; clear hHeld2; (try simp only [Act.put, List.setIfInBounds_toArray, List.set_cons_zero, List.set_cons_succ]))
      (refine take_op (i := 5) (v := ?_) rfl (by kernel_rfl) (by kernel_rfl) (by kernel_rfl) (fun _ _ _ h => h) (by rfl) ?_ hHeld ?_; rotate_left; (· (intro wS hSw; (try dsimp only at hSw); go_simp; first | done | with_reducible rfl)); simp only [Act.put, List.setIfInBounds_toArray, List.set_cons_zero, List.set_cons_succ]); (refine take_op (i := 6) (v := ?_) rfl (by kernel_rfl) (by kernel_rfl) (by kernel_rfl) (fun _ _ _ h => h) (by rfl) ?_ hHeld ?_; rotate_left; (· (intro wS hSw; (try dsimp only at hSw); go_simp; first | done | with_reducible rfl)); simp only [Act.put, List.setIfInBounds_toArray, List.set_cons_zero, List.set_cons_succ]); (refine take_op (i := 7) (v := ?_) rfl (by kernel_rfl) (by kernel_rfl) (by kernel_rfl) (fun _ _ _ h => h) (by rfl) ?_ hHeld ?_; rotate_left; (· (intro wS hSw; (try dsimp only at hSw); go_simp; first | done | with_reducible rfl)); simp only [Act.put, List.setIfInBounds_toArray, List.set_cons_zero, List.set_cons_succ])
      (refine skip_op (i := 8) rfl (by kernel_rfl) (by kernel_rfl) (by kernel_rfl) (fun _ _ _ h => h) (by rfl) hHeld ?_; simp only [Act.put, List.setIfInBounds_toArray, List.set_cons_zero, List.set_cons_succ]); (refine skip_op (i := 9) rfl (by kernel_rfl) (by kernel_rfl) (by kernel_rfl) (fun _ _ _ h => h) (by rfl) hHeld ?_; simp only [Act.put, List.setIfInBounds_toArray, List.set_cons_zero, List.set_cons_succ]); (refine skip_op (i := 10) rfl (by kernel_rfl) (by kernel_rfl) (by kernel_rfl) (fun _ _ _ h => h) (by rfl) hHeld ?_; simp only [Act.put, List.setIfInBounds_toArray, List.set_cons_zero, List.set_cons_succ]); (refine skip_op (i := 11) rfl (by kernel_rfl) (by kernel_rfl) (by kernel_rfl) (fun _ _ _ h => h) (by rfl) hHeld ?_; simp only [Act.put, List.setIfInBounds_toArray, List.set_cons_zero, List.set_cons_succ]); (refine skip_op (i := 12) rfl (by kernel_rfl) (by kernel_rfl) (by kernel_rfl) (fun _ _ _ h => h) (by rfl) hHeld ?_; simp only [Act.put, List.setIfInBounds_toArray, List.set_cons_zero, List.set_cons_succ])
      (refine take_op (i := 13) (v := ?_) rfl (by kernel_rfl) (by kernel_rfl) (by kernel_rfl) (fun _ _ _ h => h) (by rfl) ?_ hHeld ?_; rotate_left; (· (intro wS hSw; (try dsimp only at hSw); go_simp; first | done | with_reducible rfl)); simp only [Act.put, List.setIfInBounds_toArray, List.set_cons_zero, List.set_cons_succ])
      (refine wpAnyH_done (by kernel_rfl) ?_ _)
      have QRc := QR.cell
      have QRf := QR.frozen
      have Q6c := Q6.cell
      clear hHeld
      go_wp2_with fail
      refine bodyPost_ret (v := .tuple #[.agg #[.slice none 0 0, .int .i64 0, .int .i64 0], .bool false]) (by simp [results, Try.results16, go_sem, *] <;> rfl) rfl ?_
      obtain rfl := HRES.out
      exact ⟨none, 0, by first | rfl | simp [azero], IdsAt.nil, ⟨Nat.le_refl _, fun ad h => (by cases h)⟩, by ((repeat' first | with_reducible exact Below.refl _ _ | with_reducible assumption | with_reducible refine Below.alloc ?_ ?_ _ | with_reducible refine Below.setCell ?_ ?_ _ | with_reducible apply Below.drew | with_reducible apply below_drewN | with_reducible refine below_call ?_ (by with_reducible assumption) ?_) <;> (first | omega | (simp; done) | (simp; omega) | (simp at *; omega)))⟩
    subst z7
    cases R
    · have QX := PX.drew
      have QR := PR.drew
      have Q6 := P6.drew
      have q1 := kb1.drew
      have qk := kk.drew
      (refine wp_region_held_drew (S := (S11 w.heap.size g6 #[.int .i64 k, .int .u64 (n : Int), .string s, .slice (some ⟨eb, eo, none⟩) 2 c] #[.slice A9 G.length c9, .int .i64 (clamp n0 : Int), .int .i64 1])) (by kernel_rfl) ?_ (fun hHeld => ?_); (· exact ⟨QX.cell, Q6.cell⟩))
      revert hHeld QX QR Q6 q1 qk
      generalize World.drew _ = wd
      intro QX QR Q6 q1 qk hHeld
      (refine take_op (i := 0) (v := ?_) rfl (by kernel_rfl) (by kernel_rfl) (by kernel_rfl) (fun _ _ _ h => h) (by rfl) ?_ hHeld ?_; rotate_left; (· (intro wS hSw; (try dsimp only at hSw); go_simp; first | done | with_reducible rfl)); simp only [Act.put, List.setIfInBounds_toArray, List.set_cons_zero, List.set_cons_succ]); (refine take_op (i := 1) (v := ?_) rfl (by kernel_rfl) (by kernel_rfl) (by kernel_rfl) (fun _ _ _ h => h) (by rfl) ?_ hHeld ?_; rotate_left; (· (intro wS hSw; (try dsimp only at hSw); go_simp; first | done | with_reducible rfl)); simp only [Act.put, List.setIfInBounds_toArray, List.set_cons_zero, List.set_cons_succ]); (refine take_op (i := 2) (v := ?_) rfl (by kernel_rfl) (by kernel_rfl) (by kernel_rfl) (fun _ _ _ h => h) (by rfl) ?_ hHeld ?_; rotate_left; (· (intro wS hSw; (try dsimp only at hSw); go_simp; first | done | with_reducible rfl)); simp only [Act.put, List.setIfInBounds_toArray, List.set_cons_zero, List.set_cons_succ]); (refine take_op (i := 3) (v := ?_) rfl (by kernel_rfl) (by kernel_rfl) (by kernel_rfl) (fun _ _ _ h => h) (by rfl) ?_ hHeld ?_; rotate_left; (· (intro wS hSw; (try dsimp only at hSw); go_simp; first | done | with_reducible rfl)); simp only [Act.put, List.setIfInBounds_toArray, List.set_cons_zero, List.set_cons_succ])
      (refine call_op (i := 4) rfl (by kernel_rfl) (by rfl) (fun K hK => ?_); go_simp; (go_at_call 7; (with_reducible refine (Hck.out _ _ _ (i9.out.keep q1)).mono ?_); rintro e w5 ⟨rfl, hb5⟩; replace QX := QX.keep hb5; replace QR := QR.keep hb5; replace Q6 := Q6.keep hb5; replace q1 := below_call q1 hb5 q1.size; replace qk := below_call qk hb5 qk.size); refine hK.out _ _ ⟨QX.cell, Q6.cell⟩ (fun hHeld2 => ?_); clear hK K hHeld; have hHeld := hHeld2; clear hHeld2; (try simp only [Act.put, List.setIfInBounds_toArray, List.set_cons_zero, List.set_cons_succ]))
      (refine take_op (i := 5) (v := ?_) rfl (by kernel_rfl) (by kernel_rfl) (by kernel_rfl) (fun _ _ _ h => h) (by rfl) ?_ hHeld ?_; rotate_left; (· (intro wS hSw; (try dsimp only at hSw); go_simp; first | done | with_reducible rfl)); simp only [Act.put, List.setIfInBounds_toArray, List.set_cons_zero, List.set_cons_succ]); (refine take_op (i := 6) (v := ?_) rfl (by kernel_rfl) (by kernel_rfl) (by kernel_rfl) (fun _ _ _ h => h) (by rfl) ?_ hHeld ?_; rotate_left; (· (intro wS hSw; (try dsimp only at hSw); go_simp; first | done | with_reducible rfl)); simp only [Act.put, List.setIfInBounds_toArray, List.set_cons_zero, List.set_cons_succ]); (refine take_op (i := 7) (v := ?_) rfl (by kernel_rfl) (by kernel_rfl) (by kernel_rfl) (fun _ _ _ h => h) (by rfl) ?_ hHeld ?_; rotate_left; (· (intro wS hSw; (try dsimp only at hSw); go_simp; first | done | with_reducible rfl)); simp only [Act.put, List.setIfInBounds_toArray, List.set_cons_zero, List.set_cons_succ]); (refine take_op (i := 8) (v := ?_) rfl (by kernel_rfl) (by kernel_rfl) (by kernel_rfl) (fun _ _ _ h => h) (by rfl) ?_ hHeld ?_; rotate_left; (· (intro wS hSw; (try dsimp only at hSw); go_simp; first | done | with_reducible rfl)); simp only [Act.put, List.setIfInBounds_toArray, List.set_cons_zero, List.set_cons_succ]); (refine take_op (i := 9) (v := ?_) rfl (by kernel_rfl) (by kernel_rfl) (by kernel_rfl) (fun _ _ _ h => h) (by rfl) ?_ hHeld ?_; rotate_left; (· (intro wS hSw; (try dsimp only at hSw); go_simp; first | done | with_reducible rfl)); simp only [Act.put, List.setIfInBounds_toArray, List.set_cons_zero, List.set_cons_succ])
      (refine call_op (i := 10) rfl (by kernel_rfl) (by rfl) (fun K hK => ?_); go_simp; (go_at_call 14; (with_reducible refine (Hit.out _ _ _ (i9.out.keep q1)).mono ?_); rintro e w6 ⟨A6, c6, rfl, hi6, hb6⟩; replace QX := QX.keep hb6; replace QR := QR.keep hb6; replace Q6 := Q6.keep hb6; replace q1 := below_call q1 hb6 q1.size; replace qk := below_call qk hb6 qk.size); refine hK.out _ _ ⟨QX.cell, Q6.cell⟩ (fun hHeld2 => ?_); clear hK K hHeld; have hHeld := hHeld2; clear hHeld2; (try simp only [Act.put, List.setIfInBounds_toArray, List.set_cons_zero, List.set_cons_succ]))
      (refine call_op (i := 11) rfl (by kernel_rfl) (by rfl) (fun K hK => ?_); go_simp; (go_at_call 35; (with_reducible refine (Hsm.out _ _ qk hi6.holds).mono ?_); rintro e w7 ⟨rfl, hb7⟩; replace QX := QX.keep hb7; replace QR := QR.keep hb7; replace Q6 := Q6.keep hb7; replace q1 := below_call q1 hb7 q1.size; replace qk := below_call qk hb7 qk.size); refine hK.out _ _ ⟨QX.cell, Q6.cell⟩ (fun hHeld2 => ?_); clear hK K hHeld; have hHeld := hHeld2; clear hHeld2; (try simp only [Act.put, List.setIfInBounds_toArray, List.set_cons_zero, List.set_cons_succ]))
      (refine take_op (i := 12) (v := ?_) rfl (by kernel_rfl) (by kernel_rfl) (by kernel_rfl) (fun _ _ _ h => h) (by rfl) ?_ hHeld ?_; rotate_left; (· (intro wS hSw; (try dsimp only at hSw); go_simp; first | done | with_reducible rfl)); simp only [Act.put, List.setIfInBounds_toArray, List.set_cons_zero, List.set_cons_succ]); (refine take_op (i := 13) (v := ?_) rfl (by kernel_rfl) (by kernel_rfl) (by kernel_rfl) (fun _ _ _ h => h) (by rfl) ?_ hHeld ?_; rotate_left; (· (intro wS hSw; (try dsimp only at hSw); go_simp; first | done | with_reducible rfl)); simp only [Act.put, List.setIfInBounds_toArray, List.set_cons_zero, List.set_cons_succ])
      (refine wpAnyH_done (by kernel_rfl) ?_ _)
      have QRc := QR.cell
      have QRf := QR.frozen
      have Q6c := Q6.cell
      clear hHeld
      go_wp2_with fail
      refine bodyPost_ret (v := .tuple #[.agg #[.slice none 0 0, .int .i64 0, .int .i64 0], .bool false]) (by simp [results, Try.results16, go_sem, *] <;> rfl) rfl ?_
      obtain rfl := HRES.out
      exact ⟨none, 0, by first | rfl | simp [azero], IdsAt.nil, ⟨Nat.le_refl _, fun ad h => (by cases h)⟩, by ((repeat' first | with_reducible exact Below.refl _ _ | with_reducible assumption | with_reducible refine Below.alloc ?_ ?_ _ | with_reducible refine Below.setCell ?_ ?_ _ | with_reducible apply Below.drew | with_reducible apply below_drewN | with_reducible refine below_call ?_ (by with_reducible assumption) ?_) <;> (first | omega | (simp; done) | (simp; omega) | (simp at *; omega)))⟩
    · have QX := PX.drew
      have QR := PR.drew
      have Q6 := P6.drew
      have q1 := kb1.drew
      have qk := kk.drew
      (refine wp_region_held_drew (S := (S11 w.heap.size g6 #[.int .i64 k, .int .u64 (n : Int), .string s, .slice (some ⟨eb, eo, none⟩) 2 c] #[.slice A9 G.length c9, .int .i64 (clamp n0 : Int), .int .i64 1])) (by kernel_rfl) ?_ (fun hHeld => ?_); (· exact ⟨QX.cell, Q6.cell⟩))
      revert hHeld QX QR Q6 q1 qk
      generalize World.drew _ = wd
      intro QX QR Q6 q1 qk hHeld
      (refine take_op (i := 0) (v := ?_) rfl (by kernel_rfl) (by kernel_rfl) (by kernel_rfl) (fun _ _ _ h => h) (by rfl) ?_ hHeld ?_; rotate_left; (· (intro wS hSw; (try dsimp only at hSw); go_simp; first | done | with_reducible rfl)); simp only [Act.put, List.setIfInBounds_toArray, List.set_cons_zero, List.set_cons_succ]); (refine take_op (i := 1) (v := ?_) rfl (by kernel_rfl) (by kernel_rfl) (by kernel_rfl) (fun _ _ _ h => h) (by rfl) ?_ hHeld ?_; rotate_left; (· (intro wS hSw; (try dsimp only at hSw); go_simp; first | done | with_reducible rfl)); simp only [Act.put, List.setIfInBounds_toArray, List.set_cons_zero, List.set_cons_succ]); (refine take_op (i := 2) (v := ?_) rfl (by kernel_rfl) (by kernel_rfl) (by kernel_rfl) (fun _ _ _ h => h) (by rfl) ?_ hHeld ?_; rotate_left; (· (intro wS hSw; (try dsimp only at hSw); go_simp; first | done | with_reducible rfl)); simp only [Act.put, List.setIfInBounds_toArray, List.set_cons_zero, List.set_cons_succ]); (refine take_op (i := 3) (v := ?_) rfl (by kernel_rfl) (by kernel_rfl) (by kernel_rfl) (fun _ _ _ h => h) (by rfl) ?_ hHeld ?_; rotate_left; (· (intro wS hSw; (try dsimp only at hSw); go_simp; first | done | with_reducible rfl)); simp only [Act.put, List.setIfInBounds_toArray, List.set_cons_zero, List.set_cons_succ])
      (refine call_op (i := 4) rfl (by kernel_rfl) (by rfl) (fun K hK => ?_); go_simp; (go_at_call 7; (with_reducible refine (Hck.out _ _ _ (i9.out.keep q1)).mono ?_); rintro e w5 ⟨rfl, hb5⟩; replace QX := QX.keep hb5; replace QR := QR.keep hb5; replace Q6 := Q6.keep hb5; replace q1 := below_call q1 hb5 q1.size; replace qk := below_call qk hb5 qk.size); refine hK.out _ _ ⟨QX.cell, Q6.cell⟩ (fun hHeld2 => ?_); clear hK K hHeld; have hHeld := hHeld2; clear hHeld2; (try simp only [Act.put, List.setIfInBounds_toArray, List.set_cons_zero, List.set_cons_succ]))
      (refine take_op (i := 5) (v := ?_) rfl (by kernel_rfl) (by kernel_rfl) (by kernel_rfl) (fun _ _ _ h => h) (by rfl) ?_ hHeld ?_; rotate_left; (· (intro wS hSw; (try dsimp only at hSw); go_simp; first | done | with_reducible rfl)); simp only [Act.put, List.setIfInBounds_toArray, List.set_cons_zero, List.set_cons_succ]); (refine take_op (i := 6) (v := ?_) rfl (by kernel_rfl) (by kernel_rfl) (by kernel_rfl) (fun _ _ _ h => h) (by rfl) ?_ hHeld ?_; rotate_left; (· (intro wS hSw; (try dsimp only at hSw); go_simp; first | done | with_reducible rfl)); simp only [Act.put, List.setIfInBounds_toArray, List.set_cons_zero, List.set_cons_succ]); (refine take_op (i := 7) (v := ?_) rfl (by kernel_rfl) (by kernel_rfl) (by kernel_rfl) (fun _ _ _ h => h) (by rfl) ?_ hHeld ?_; rotate_left; (· (intro wS hSw; (try dsimp only at hSw); go_simp; first | done | with_reducible rfl)); simp only [Act.put, List.setIfInBounds_toArray, List.set_cons_zero, List.set_cons_succ]); (refine take_op (i := 8) (v := ?_) rfl (by kernel_rfl) (by kernel_rfl) (by kernel_rfl) (fun _ _ _ h => h) (by rfl) ?_ hHeld ?_; rotate_left; (· (intro wS hSw; (try dsimp only at hSw); go_simp; first | done | with_reducible rfl)); simp only [Act.put, List.setIfInBounds_toArray, List.set_cons_zero, List.set_cons_succ]); (refine take_op (i := 9) (v := ?_) rfl (by kernel_rfl) (by kernel_rfl) (by kernel_rfl) (fun _ _ _ h => h) (by rfl) ?_ hHeld ?_; rotate_left; (· (intro wS hSw; (try dsimp only at hSw); go_simp; first | done | with_reducible rfl)); simp only [Act.put, List.setIfInBounds_toArray, List.set_cons_zero, List.set_cons_succ])
      (refine call_op (i := 10) rfl (by kernel_rfl) (by rfl) (fun K hK => ?_); go_simp; (go_at_call 14; (with_reducible refine (Hit.out _ _ _ (i9.out.keep q1)).mono ?_); rintro e w6 ⟨A6, c6, rfl, hi6, hb6⟩; replace QX := QX.keep hb6; replace QR := QR.keep hb6; replace Q6 := Q6.keep hb6; replace q1 := below_call q1 hb6 q1.size; replace qk := below_call qk hb6 qk.size); refine hK.out _ _ ⟨QX.cell, Q6.cell⟩ (fun hHeld2 => ?_); clear hK K hHeld; have hHeld := hHeld2; clear hHeld2; (try simp only [Act.put, List.setIfInBounds_toArray, List.set_cons_zero, List.set_cons_succ]))
      (refine call_op (i := 11) rfl (by kernel_rfl) (by rfl) (fun K hK => ?_); go_simp; (go_at_call 35; (with_reducible refine (Hsm.out _ _ qk hi6.holds).mono ?_); rintro e w7 ⟨rfl, hb7⟩; replace QX := QX.keep hb7; replace QR := QR.keep hb7; replace Q6 := Q6.keep hb7; replace q1 := below_call q1 hb7 q1.size; replace qk := below_call qk hb7 qk.size); refine hK.out _ _ ⟨QX.cell, Q6.cell⟩ (fun hHeld2 => ?_); clear hK K hHeld; have hHeld := hHeld2; clear hHeld2; (try simp only [Act.put, List.setIfInBounds_toArray, List.set_cons_zero, List.set_cons_succ]))
      (refine take_op (i := 12) (v := ?_) rfl (by kernel_rfl) (by kernel_rfl) (by kernel_rfl) (fun _ _ _ h => h) (by rfl) ?_ hHeld ?_; rotate_left; (· (intro wS hSw; (try dsimp only at hSw); go_simp; first | done | with_reducible rfl)); simp only [Act.put, List.setIfInBounds_toArray, List.set_cons_zero, List.set_cons_succ]); (refine take_op (i := 13) (v := ?_) rfl (by kernel_rfl) (by kernel_rfl) (by kernel_rfl) (fun _ _ _ h => h) (by rfl) ?_ hHeld ?_; rotate_left; (· (intro wS hSw; (try dsimp only at hSw); go_simp; first | done | with_reducible rfl)); simp only [Act.put, List.setIfInBounds_toArray, List.set_cons_zero, List.set_cons_succ])
      (refine wpAnyH_done (by kernel_rfl) ?_ _)
      have QRc := QR.cell
      have QRf := QR.frozen
      have Q6c := Q6.cell
      clear hHeld
      go_wp2_with fail
      refine bodyPost_ret (v := .tuple #[.agg #[.slice A9 G.length c9, .int .i64 (clamp n0 : Int), .int .i64 1], .bool true]) (by simp [results, Try.results16, go_sem, *] <;> rfl) rfl ?_
      obtain rfl := HRES.out
      have hq : ∀ ad, A9 = some ad → ad.block ≠ w.heap.size + 1 := fun ad e => (by have := le9.2 ad e; simp at this; omega)
      exact ⟨A9, c9, rfl, (((i9.out.keep q1).set (p := ⟨w.heap.size + 1, 0, none⟩) hq _).set (p := ⟨w.heap.size + 1, 1, none⟩) hq _).set (p := ⟨w.heap.size + 1, 2, none⟩) hq _, ⟨le9.1, fun ad e => (by have := le9.2 ad e; simp at this; omega)⟩, by ((repeat' first | with_reducible exact Below.refl _ _ | with_reducible assumption | with_reducible refine Below.alloc ?_ ?_ _ | with_reducible refine Below.setCell ?_ ?_ _ | with_reducible apply Below.drew | with_reducible apply below_drewN | with_reducible refine below_call ?_ (by with_reducible assumption) ?_) <;> (first | omega | (simp; done) | (simp; omega) | (simp at *; omega)))⟩
set_option maxHeartbeats 4000000 in
theorem refattrtake_many (k : Int) (n : Nat) (s : ByteArray) (A : Option Addr) (m c : Nat) (w : World) (hm : m ≠ 3) :
    Calls Try.prog 15 #[.agg #[.int .i64 k, .int .u64 (n : Int), .string s, .slice A m c]] w (Gives w (.tuple #[.agg #[.slice none 0 0, .int .i64 0, .int .i64 0], .bool false])) := by
  have g1 : ((m : Int) != 3) = true := by simp; omega
  go_enter Try.func15, Try.ntmps15
  go_wp2_with fail
  refine bodyPost_ret (v := .tuple #[.agg #[.slice none 0 0, .int .i64 0, .int .i64 0], .bool false]) (by simp [results, Try.results15, go_sem, *] <;> rfl) rfl ?_
  exact ⟨rfl, by ((repeat' first | with_reducible exact Below.refl _ _ | with_reducible assumption | with_reducible refine Below.alloc ?_ ?_ _ | with_reducible refine Below.setCell ?_ ?_ _ | with_reducible apply Below.drew | with_reducible apply below_drewN | with_reducible refine below_call ?_ (by with_reducible assumption) ?_) <;> (first | omega | (simp; done) | (simp; omega) | (simp at *; omega)))⟩
set_option maxHeartbeats 8000000 in
theorem refattrtake_good (k : Int) (n : Nat) (s : ByteArray) (A : Option Addr) (c : Nat) (t0 t1 t2 : Tree) (w : World) (hv : Holds w (.mk k n s [t0, t1, t2]) (.agg #[.int .i64 k, .int .u64 (n : Int), .string s, .slice A 3 c])) :
    Calls Try.prog 15 #[.agg #[.int .i64 k, .int .u64 (n : Int), .string s, .slice A 3 c]] w (TkA w (atake (.mk k n s [t0, t1, t2]))) := by
  obtain ⟨eb, eo, rfl, hrow⟩ := hv.items.rows (by simp)
  obtain ⟨k0, n0, s0, A0, m0, c0, h0, p00, p01, p02, p03, hn0⟩ := hrow 0 t0 rfl
  simp only [Nat.reduceMul, Nat.add_zero, Nat.add_assoc, Nat.reduceAdd] at p00 p01 p02 p03
  obtain ⟨k1, n1, s1, A1, m1, c1, h1, p10, p11, p12, p13, hn1⟩ := hrow 1 t1 rfl
  simp only [Nat.reduceMul, Nat.add_zero, Nat.add_assoc, Nat.reduceAdd] at p10 p11 p12 p13
  obtain ⟨k2, n2, s2, A2, m2, c2, h2, p20, p21, p22, p23, hn2⟩ := hrow 2 t2 rfl
  simp only [Nat.reduceMul, Nat.add_zero, Nat.add_assoc, Nat.reduceAdd] at p20 p21 p22 p23
  have hid := fun W (hb : Below w.heap.size w W) => reftake5_any t2 _ W (h2.keep hb)
  have hnu0 := fun W (hb : Below w.heap.size w W) => refint_any t0 _ W (h0.keep hb)
  rw [hn0] at hnu0
  have hnu1 := fun W (hb : Below w.heap.size w W) => refint_any t1 _ W (h1.keep hb)
  rw [hn1] at hnu1
  obtain ⟨J, hJ⟩ : ∃ J, itake t2 = J := ⟨_, rfl⟩
  rw [hJ] at hid
  unfold TkIds at hid
  have hw := fun l h => itake_wf (t := t2) (l := l) h
  rw [hJ] at hw
  have hplain : atake (.mk k n s [t0, t1, t2]) = aTk J.isSome (J.getD []) (clamp n1 : Int) (clamp n0 : Int) (.mk k n s [t0, t1, t2]) (atree (J.getD []) (clamp n1) (clamp n0)) := by rw [← hJ, ← hn0, ← hn1]; rfl
  rw [hplain]
  unfold aTk
  have hl4 : (J.getD []).length ≤ 1000000 := by cases J with | none => simp | some j => have := (hw _ rfl).2.1; simp; omega
  generalize J.getD [] = G at *
  generalize J.isSome = b at *
  have hck := fun W A' c' (hi : IdsAt W A' G.length G) => check7_any A' G.length c' (clamp n1 : Int) (clamp n0 : Int) G W hi
  have hit := fun W A' c' (hi : IdsAt W A' G.length G) => refattritem_any A' G.length c' (clamp n1 : Int) (clamp n0 : Int) G W hi hl4
  have hsm := fun x W (hb : Below w.heap.size w W) (hx : Holds W (atree G (clamp n1) (clamp n0)) x) => resame_any (.mk k n s [t0, t1, t2]) (atree G (clamp n1) (clamp n0)) _ x W (hv.keep hb) hx
  obtain ⟨R, hR⟩ : ∃ R, tsame (.mk k n s [t0, t1, t2]) (atree G (clamp n1) (clamp n0)) = R := ⟨_, rfl⟩
  rw [hR] at hsm ⊢
  obtain ⟨g7, hg7⟩ : ∃ g, acheck ⟨G, (clamp n1 : Int), (clamp n0 : Int)⟩ = g := ⟨_, rfl⟩
  rw [hg7] at hck ⊢
  obtain ⟨RES, hRES⟩ : ∃ r, (if (b && decide (g7 = 0) && R) = true then some (AttrP.mk G (clamp n1 : Int) (clamp n0 : Int)) else none) = r := ⟨_, rfl⟩
  rw [hRES]
  unfold listV at hit
  have HRES := Lib.hid hRES
  have Hid := Lib.hid hid
  have Hck := Lib.hid hck
  have Hit := Lib.hid hit
  have Hsm := Lib.hid hsm
  clear hid hck hit hsm hR hg7 hplain hJ hv hrow hw hl4 hRES
  have Hnu0 := Lib.hid hnu0
  clear hnu0 hn0
  have Hnu1 := Lib.hid hnu1
  clear hnu1 hn1
  clear h0 h1 h2 hn2
  have X0 : Blk ((w.alloc (.cells #[.int .i64 k, .int .u64 (n : Int), .string s, .slice (some ⟨eb, eo, none⟩) 3 c] 28)).alloc (.cells #[.slice none 0 0, .int .i64 0, .int .i64 0] 24)) w.heap.size 28 #[.int .i64 k, .int .u64 (n : Int), .string s, .slice (some ⟨eb, eo, none⟩) 3 c] := (Blk.new w _ _).alloc _
  have R0 : Blk ((w.alloc (.cells #[.int .i64 k, .int .u64 (n : Int), .string s, .slice (some ⟨eb, eo, none⟩) 3 c] 28)).alloc (.cells #[.slice none 0 0, .int .i64 0, .int .i64 0] 24)) (w.heap.size + 1) 24 #[.slice none 0 0, .int .i64 0, .int .i64 0] := Blk.newAt (by simp)
  have k0 : Below w.heap.size w ((w.alloc (.cells #[.int .i64 k, .int .u64 (n : Int), .string s, .slice (some ⟨eb, eo, none⟩) 3 c] 28)).alloc (.cells #[.slice none 0 0, .int .i64 0, .int .i64 0] 24)) := by ((repeat' first | with_reducible exact Below.refl _ _ | with_reducible assumption | with_reducible refine Below.alloc ?_ ?_ _ | with_reducible refine Below.setCell ?_ ?_ _ | with_reducible apply Below.drew | with_reducible apply below_drewN | with_reducible refine below_call ?_ (by with_reducible assumption) ?_) <;> (first | omega | (simp; done) | (simp; omega) | (simp at *; omega)))
  have x0 := X0.cell
  have z00 := cell_keep k0 p00
  have z01 := cell_keep k0 p01
  have z02 := cell_keep k0 p02
  have z03 := cell_keep k0 p03
  have z10 := cell_keep k0 p10
  have z11 := cell_keep k0 p11
  have z12 := cell_keep k0 p12
  have z13 := cell_keep k0 p13
  have z20 := cell_keep k0 p20
  have z21 := cell_keep k0 p21
  have z22 := cell_keep k0 p22
  have z23 := cell_keep k0 p23
  go_enter Try.func15, Try.ntmps15
  go_upto_region 4 with (go_at_call 33; (with_reducible refine (Hid.out _ k0).mono ?_); rintro e w1 ⟨A9, c9, rfl, i9', le9, hb1⟩; have i9 := Lib.hid i9'; clear i9'; have PX := X0.keep hb1; have PR := R0.keep hb1; have kk := below_call k0 hb1 k0.size; have kb1 := Below.refl w1.heap.size w1; have z1 : w.heap.size + 2 ≤ w1.heap.size := PR.lt; clear x0 X0 R0 k0 z00 z01 z02 z03 z10 z11 z12 z13 z20 z21 z22 z23)
  obtain ⟨SX, hSX⟩ : ∃ S : World → Prop, S = fun wx => ((wx.cell? ⟨w.heap.size, 0, none⟩ = some (.int .i64 k) ∧ wx.cell? ⟨w.heap.size, 1, none⟩ = some (.int .u64 (n : Int)) ∧ wx.cell? ⟨w.heap.size, 2, none⟩ = some (.string s) ∧ wx.cell? ⟨w.heap.size, 3, none⟩ = some (.slice (some ⟨eb, eo, none⟩) 3 c)) ∧ (wx.cell? ⟨eb, eo, none⟩ = some (.int .i64 k0) ∧ wx.cell? ⟨eb, eo + 1, none⟩ = some (.int .u64 (n0 : Int)) ∧ wx.cell? ⟨eb, eo + 2, none⟩ = some (.string s0) ∧ wx.cell? ⟨eb, eo + 3, none⟩ = some (.slice A0 m0 c0)) ∧ (wx.cell? ⟨eb, eo + 4, none⟩ = some (.int .i64 k1) ∧ wx.cell? ⟨eb, eo + 5, none⟩ = some (.int .u64 (n1 : Int)) ∧ wx.cell? ⟨eb, eo + 6, none⟩ = some (.string s1) ∧ wx.cell? ⟨eb, eo + 7, none⟩ = some (.slice A1 m1 c1)) ∧ (wx.cell? ⟨eb, eo + 8, none⟩ = some (.int .i64 k2) ∧ wx.cell? ⟨eb, eo + 9, none⟩ = some (.int .u64 (n2 : Int)) ∧ wx.cell? ⟨eb, eo + 10, none⟩ = some (.string s2) ∧ wx.cell? ⟨eb, eo + 11, none⟩ = some (.slice A2 m2 c2))) := ⟨_, rfl⟩
  have mkS : ∀ W, Below w.heap.size w W → Blk W w.heap.size 28 #[.int .i64 k, .int .u64 (n : Int), .string s, .slice (some ⟨eb, eo, none⟩) 3 c] → SX W := fun W k B => by
    subst hSX
    exact ⟨⟨B.cell 0, B.cell 1, B.cell 2, B.cell 3⟩, ⟨cell_keep k p00, cell_keep k p01, cell_keep k p02, cell_keep k p03⟩, ⟨cell_keep k p10, cell_keep k p11, cell_keep k p12, cell_keep k p13⟩, ⟨cell_keep k p20, cell_keep k p21, cell_keep k p22, cell_keep k p23⟩⟩
  replace PX := PX.drew
  replace PR := PR.drew
  replace kk := kk.drew
  replace kb1 := kb1.drew
  (refine wp_region_held_drew (S := SX) (by kernel_rfl) ?_ (fun hHeld => ?_); (· exact mkS _ kk PX))
  revert hHeld PX PR kk kb1
  generalize World.drew _ = wd
  intro PX PR kk kb1 hHeld
  subst hSX
  (refine take_op (i := 0) (v := ?_) rfl (by kernel_rfl) (by kernel_rfl) (by kernel_rfl) (fun _ _ _ h => h) (by rfl) ?_ hHeld ?_; rotate_left; (· (intro wS hSw; (try dsimp only at hSw); go_simp; first | done | with_reducible rfl)); simp only [Act.put, List.setIfInBounds_toArray, List.set_cons_zero, List.set_cons_succ]); (refine take_op (i := 1) (v := ?_) rfl (by kernel_rfl) (by kernel_rfl) (by kernel_rfl) (fun _ _ _ h => h) (by rfl) ?_ hHeld ?_; rotate_left; (· (intro wS hSw; (try dsimp only at hSw); go_simp; first | done | with_reducible rfl)); simp only [Act.put, List.setIfInBounds_toArray, List.set_cons_zero, List.set_cons_succ]); (refine take_op (i := 2) (v := ?_) rfl (by kernel_rfl) (by kernel_rfl) (by kernel_rfl) (fun _ _ _ h => h) (by rfl) ?_ hHeld ?_; rotate_left; (· (intro wS hSw; (try dsimp only at hSw); go_simp; first | done | with_reducible rfl)); simp only [Act.put, List.setIfInBounds_toArray, List.set_cons_zero, List.set_cons_succ]); (refine take_op (i := 3) (v := ?_) rfl (by kernel_rfl) (by kernel_rfl) (by kernel_rfl) (fun _ _ _ h => h) (by rfl) ?_ hHeld ?_; rotate_left; (· (intro wS hSw; (try dsimp only at hSw); go_simp; first | done | with_reducible rfl)); simp only [Act.put, List.setIfInBounds_toArray, List.set_cons_zero, List.set_cons_succ]); (refine take_op (i := 4) (v := ?_) rfl (by kernel_rfl) (by kernel_rfl) (by kernel_rfl) (fun _ _ _ h => h) (by rfl) ?_ hHeld ?_; rotate_left; (· (intro wS hSw; (try dsimp only at hSw); go_simp; first | done | with_reducible rfl)); simp only [Act.put, List.setIfInBounds_toArray, List.set_cons_zero, List.set_cons_succ]); (refine take_op (i := 6) (v := ?_) rfl (by kernel_rfl) (by kernel_rfl) (by kernel_rfl) (fun _ _ _ h => h) (by rfl) ?_ hHeld ?_; rotate_left; (· (intro wS hSw; (try dsimp only at hSw); go_simp; first | done | with_reducible rfl)); simp only [Act.put, List.setIfInBounds_toArray, List.set_cons_zero, List.set_cons_succ]); (refine take_op (i := 7) (v := ?_) rfl (by kernel_rfl) (by kernel_rfl) (by kernel_rfl) (fun _ _ _ h => h) (by rfl) ?_ hHeld ?_; rotate_left; (· (intro wS hSw; (try dsimp only at hSw); go_simp; first | done | with_reducible rfl)); simp only [Act.put, List.setIfInBounds_toArray, List.set_cons_zero, List.set_cons_succ]); (refine take_op (i := 8) (v := ?_) rfl (by kernel_rfl) (by kernel_rfl) (by kernel_rfl) (fun _ _ _ h => h) (by rfl) ?_ hHeld ?_; rotate_left; (· (intro wS hSw; (try dsimp only at hSw); go_simp; first | done | with_reducible rfl)); simp only [Act.put, List.setIfInBounds_toArray, List.set_cons_zero, List.set_cons_succ]); (refine take_op (i := 9) (v := ?_) rfl (by kernel_rfl) (by kernel_rfl) (by kernel_rfl) (fun _ _ _ h => h) (by rfl) ?_ hHeld ?_; rotate_left; (· (intro wS hSw; (try dsimp only at hSw); go_simp; first | done | with_reducible rfl)); simp only [Act.put, List.setIfInBounds_toArray, List.set_cons_zero, List.set_cons_succ])
  refine two_op (i := 5) (j := 12) rfl rfl (by kernel_rfl) (by rfl) (by rfl) ?_ ?_
  · (intro K hK; go_simp; (go_at_call 34; (with_reducible refine (Hnu1.out _ kk).mono ?_); rintro e w2 ⟨rfl, hb2⟩; replace PX := PX.keep hb2; replace PR := PR.keep hb2; replace kb1 := below_call kb1 hb2 kb1.size; replace kk := below_call kk hb2 kk.size); refine hK.out _ _ (mkS _ kk PX) (fun hHeld2 => ?_); clear hK K hHeld; have hHeld := hHeld2; clear hHeld2; (try simp only [Act.put, List.setIfInBounds_toArray, List.set_cons_zero, List.set_cons_succ]))
    refine two_op (i := 10) (j := 12) rfl rfl (by kernel_rfl) (by rfl) (by rfl) ?_ ?_
    · (intro K hK; go_simp; (go_at_call 34; (with_reducible refine (Hnu0.out _ kk).mono ?_); rintro e w2 ⟨rfl, hb2⟩; replace PX := PX.keep hb2; replace PR := PR.keep hb2; replace kb1 := below_call kb1 hb2 kb1.size; replace kk := below_call kk hb2 kk.size); refine hK.out _ _ (mkS _ kk PX) (fun hHeld2 => ?_); clear hK K hHeld; have hHeld := hHeld2; clear hHeld2; (try simp only [Act.put, List.setIfInBounds_toArray, List.set_cons_zero, List.set_cons_succ]))
      (refine take_op (i := 11) (v := ?_) rfl (by kernel_rfl) (by kernel_rfl) (by kernel_rfl) (fun _ _ _ h => h) (by rfl) ?_ hHeld ?_; rotate_left; (· (intro wS hSw; (try dsimp only at hSw); go_simp; first | done | with_reducible rfl)); simp only [Act.put, List.setIfInBounds_toArray, List.set_cons_zero, List.set_cons_succ])
      (refine call_op (i := 12) rfl (by kernel_rfl) (by rfl) (fun K hK => ?_); go_simp; skip; refine hK.out _ _ (mkS _ (kk.alloc kk.size (.cells #[.slice none 0 0, .int .i64 0, .int .i64 0] 24)) (PX.alloc (.cells #[.slice none 0 0, .int .i64 0, .int .i64 0] 24))) (fun hHeld2 => ?_); clear hK K hHeld; have hHeld := hHeld2; clear hHeld2; (try simp only [Act.put, List.setIfInBounds_toArray, List.set_cons_zero, List.set_cons_succ]))
      have P6 := Blk.new w2 24 #[.slice none 0 0, .int .i64 0, .int .i64 0]
      have hz6 : w1.heap.size ≤ (w2).heap.size := kb1.size
      replace PX := PX.alloc (.cells #[.slice none 0 0, .int .i64 0, .int .i64 0] 24)
      replace PR := PR.alloc (.cells #[.slice none 0 0, .int .i64 0, .int .i64 0] 24)
      replace kb1 := kb1.alloc kb1.size (.cells #[.slice none 0 0, .int .i64 0, .int .i64 0] 24)
      replace kk := kk.alloc kk.size (.cells #[.slice none 0 0, .int .i64 0, .int .i64 0] 24)
      revert hHeld P6 hz6 PX PR kb1 kk
      generalize World.alloc w2 _ = w9
      generalize (w2).heap.size = g6
      intro hHeld P6 hz6 PX PR kb1 kk
      have P6c := P6.cell
      have P6f := P6.frozen
      have PS : Blk (((w9.setCell ⟨g6, 0, none⟩ (.slice A9 G.length c9)).setCell ⟨g6, 1, none⟩ (.int .i64 (clamp n1 : Int))).setCell ⟨g6, 2, none⟩ (.int .i64 (clamp n0 : Int))) g6 24 #[.slice A9 G.length c9, .int .i64 (clamp n1 : Int), .int .i64 (clamp n0 : Int)] := by
        have := ((P6.set_ 0 (.slice A9 G.length c9)).set_ 1 (.int .i64 (clamp n1 : Int))).set_ 2 (.int .i64 (clamp n0 : Int))
        simpa using this
      replace PX := ((PX.far (p := ⟨g6, 0, none⟩) (by simp; omega) (.slice A9 G.length c9)).far (p := ⟨g6, 1, none⟩) (by simp; omega) (.int .i64 (clamp n1 : Int))).far (p := ⟨g6, 2, none⟩) (by simp; omega) (.int .i64 (clamp n0 : Int))
      replace PR := ((PR.far (p := ⟨g6, 0, none⟩) (by simp; omega) (.slice A9 G.length c9)).far (p := ⟨g6, 1, none⟩) (by simp; omega) (.int .i64 (clamp n1 : Int))).far (p := ⟨g6, 2, none⟩) (by simp; omega) (.int .i64 (clamp n0 : Int))
      replace kb1 := ((kb1.setCell (p := ⟨g6, 0, none⟩) hz6 (.slice A9 G.length c9)).setCell (p := ⟨g6, 1, none⟩) hz6 (.int .i64 (clamp n1 : Int))).setCell (p := ⟨g6, 2, none⟩) hz6 (.int .i64 (clamp n0 : Int))
      replace kk := ((kk.setCell (p := ⟨g6, 0, none⟩) (by simp; omega) (.slice A9 G.length c9)).setCell (p := ⟨g6, 1, none⟩) (by simp; omega) (.int .i64 (clamp n1 : Int))).setCell (p := ⟨g6, 2, none⟩) (by simp; omega) (.int .i64 (clamp n0 : Int))
      (refine call_op (i := 13) rfl (by kernel_rfl) (by rfl) (fun K hK => ?_); go_simp; skip; refine hK.out _ _ (mkS _ kk PX) (fun hHeld2 => ?_); clear hK K hHeld; have hHeld := hHeld2; clear hHeld2; (try simp only [Act.put, List.setIfInBounds_toArray, List.set_cons_zero, List.set_cons_succ]))
      clear P6c P6f P6 hHeld mkS
      (refine wpAnyH_done (by kernel_rfl) ?_ _)
      revert PS PX PR kb1 kk
      generalize World.setCell (World.setCell (World.setCell _ ⟨g6, 0, none⟩ _) ⟨g6, 1, none⟩ _) ⟨g6, 2, none⟩ _ = W4
      intro P6 PX PR kb1 kk
      go_upto_region 5 with fail
      cases b
      · have QX := PX.drew
        have QR := PR.drew
        have Q6 := P6.drew
        have q1 := kb1.drew
        have qk := kk.drew
        (refine wp_region_held_drew (S := (S11 w.heap.size g6 #[.int .i64 k, .int .u64 (n : Int), .string s, .slice (some ⟨eb, eo, none⟩) 3 c] #[.slice A9 G.length c9, .int .i64 (clamp n1 : Int), .int .i64 (clamp n0 : Int)])) (by kernel_rfl) ?_ (fun hHeld => ?_); (· exact ⟨QX.cell, Q6.cell⟩))
        revert hHeld QX QR Q6 q1 qk
        generalize World.drew _ = wd
        intro QX QR Q6 q1 qk hHeld
        (refine take_op (i := 0) (v := ?_) rfl (by kernel_rfl) (by kernel_rfl) (by kernel_rfl) (fun _ _ _ h => h) (by rfl) ?_ hHeld ?_; rotate_left; (· (intro wS hSw; (try dsimp only at hSw); go_simp; first | done | with_reducible rfl)); simp only [Act.put, List.setIfInBounds_toArray, List.set_cons_zero, List.set_cons_succ]); (refine take_op (i := 1) (v := ?_) rfl (by kernel_rfl) (by kernel_rfl) (by kernel_rfl) (fun _ _ _ h => h) (by rfl) ?_ hHeld ?_; rotate_left; (· (intro wS hSw; (try dsimp only at hSw); go_simp; first | done | with_reducible rfl)); simp only [Act.put, List.setIfInBounds_toArray, List.set_cons_zero, List.set_cons_succ]); (refine take_op (i := 2) (v := ?_) rfl (by kernel_rfl) (by kernel_rfl) (by kernel_rfl) (fun _ _ _ h => h) (by rfl) ?_ hHeld ?_; rotate_left; (· (intro wS hSw; (try dsimp only at hSw); go_simp; first | done | with_reducible rfl)); simp only [Act.put, List.setIfInBounds_toArray, List.set_cons_zero, List.set_cons_succ])
        (refine skip_op (i := 3) rfl (by kernel_rfl) (by kernel_rfl) (by kernel_rfl) (fun _ _ _ h => h) (by rfl) hHeld ?_; simp only [Act.put, List.setIfInBounds_toArray, List.set_cons_zero, List.set_cons_succ]); (refine skip_op (i := 4) rfl (by kernel_rfl) (by kernel_rfl) (by kernel_rfl) (fun _ _ _ h => h) (by rfl) hHeld ?_; simp only [Act.put, List.setIfInBounds_toArray, List.set_cons_zero, List.set_cons_succ]); (refine skip_op (i := 5) rfl (by kernel_rfl) (by kernel_rfl) (by kernel_rfl) (fun _ _ _ h => h) (by rfl) hHeld ?_; simp only [Act.put, List.setIfInBounds_toArray, List.set_cons_zero, List.set_cons_succ])
        (refine take_op (i := 6) (v := ?_) rfl (by kernel_rfl) (by kernel_rfl) (by kernel_rfl) (fun _ _ _ h => h) (by rfl) ?_ hHeld ?_; rotate_left; (· (intro wS hSw; (try dsimp only at hSw); go_simp; first | done | with_reducible rfl)); simp only [Act.put, List.setIfInBounds_toArray, List.set_cons_zero, List.set_cons_succ]); (refine take_op (i := 7) (v := ?_) rfl (by kernel_rfl) (by kernel_rfl) (by kernel_rfl) (fun _ _ _ h => h) (by rfl) ?_ hHeld ?_; rotate_left; (· (intro wS hSw; (try dsimp only at hSw); go_simp; first | done | with_reducible rfl)); simp only [Act.put, List.setIfInBounds_toArray, List.set_cons_zero, List.set_cons_succ])
        (refine skip_op (i := 8) rfl (by kernel_rfl) (by kernel_rfl) (by kernel_rfl) (fun _ _ _ h => h) (by rfl) hHeld ?_; simp only [Act.put, List.setIfInBounds_toArray, List.set_cons_zero, List.set_cons_succ]); (refine skip_op (i := 9) rfl (by kernel_rfl) (by kernel_rfl) (by kernel_rfl) (fun _ _ _ h => h) (by rfl) hHeld ?_; simp only [Act.put, List.setIfInBounds_toArray, List.set_cons_zero, List.set_cons_succ]); (refine skip_op (i := 10) rfl (by kernel_rfl) (by kernel_rfl) (by kernel_rfl) (fun _ _ _ h => h) (by rfl) hHeld ?_; simp only [Act.put, List.setIfInBounds_toArray, List.set_cons_zero, List.set_cons_succ]); (refine skip_op (i := 11) rfl (by kernel_rfl) (by kernel_rfl) (by kernel_rfl) (fun _ _ _ h => h) (by rfl) hHeld ?_; simp only [Act.put, List.setIfInBounds_toArray, List.set_cons_zero, List.set_cons_succ]); (refine skip_op (i := 12) rfl (by kernel_rfl) (by kernel_rfl) (by kernel_rfl) (fun _ _ _ h => h) (by rfl) hHeld ?_; simp only [Act.put, List.setIfInBounds_toArray, List.set_cons_zero, List.set_cons_succ])
        (refine take_op (i := 13) (v := ?_) rfl (by kernel_rfl) (by kernel_rfl) (by kernel_rfl) (fun _ _ _ h => h) (by rfl) ?_ hHeld ?_; rotate_left; (· (intro wS hSw; (try dsimp only at hSw); go_simp; first | done | with_reducible rfl)); simp only [Act.put, List.setIfInBounds_toArray, List.set_cons_zero, List.set_cons_succ])
        (refine wpAnyH_done (by kernel_rfl) ?_ _)
        have QRc := QR.cell
        have QRf := QR.frozen
        have Q6c := Q6.cell
        clear hHeld
        go_wp2_with fail
        refine bodyPost_ret (v := .tuple #[.agg #[.slice none 0 0, .int .i64 0, .int .i64 0], .bool false]) (by simp [results, Try.results15, go_sem, *] <;> rfl) rfl ?_
        obtain rfl := HRES.out
        exact ⟨none, 0, by first | rfl | simp [azero], IdsAt.nil, ⟨Nat.le_refl _, fun ad h => (by cases h)⟩, by ((repeat' first | with_reducible exact Below.refl _ _ | with_reducible assumption | with_reducible refine Below.alloc ?_ ?_ _ | with_reducible refine Below.setCell ?_ ?_ _ | with_reducible apply Below.drew | with_reducible apply below_drewN | with_reducible refine below_call ?_ (by with_reducible assumption) ?_) <;> (first | omega | (simp; done) | (simp; omega) | (simp at *; omega)))⟩
      · by_cases z7 : g7 = 0
        case neg =>
          have z7' : ((g7 : Int) != 0) = true := by simp; omega
          rw [decide_eq_false z7] at HRES
          have QX := PX.drew
          have QR := PR.drew
          have Q6 := P6.drew
          have q1 := kb1.drew
          have qk := kk.drew
          (refine wp_region_held_drew (S := (S11 w.heap.size g6 #[.int .i64 k, .int .u64 (n : Int), .string s, .slice (some ⟨eb, eo, none⟩) 3 c] #[.slice A9 G.length c9, .int .i64 (clamp n1 : Int), .int .i64 (clamp n0 : Int)])) (by kernel_rfl) ?_ (fun hHeld => ?_); (· exact ⟨QX.cell, Q6.cell⟩))
          revert hHeld QX QR Q6 q1 qk
          generalize World.drew _ = wd
          intro QX QR Q6 q1 qk hHeld
          (refine take_op (i := 0) (v := ?_) rfl (by kernel_rfl) (by kernel_rfl) (by kernel_rfl) (fun _ _ _ h => h) (by rfl) ?_ hHeld ?_; rotate_left; (· (intro wS hSw; (try dsimp only at hSw); go_simp; first | done | with_reducible rfl)); simp only [Act.put, List.setIfInBounds_toArray, List.set_cons_zero, List.set_cons_succ]); (refine take_op (i := 1) (v := ?_) rfl (by kernel_rfl) (by kernel_rfl) (by kernel_rfl) (fun _ _ _ h => h) (by rfl) ?_ hHeld ?_; rotate_left; (· (intro wS hSw; (try dsimp only at hSw); go_simp; first | done | with_reducible rfl)); simp only [Act.put, List.setIfInBounds_toArray, List.set_cons_zero, List.set_cons_succ]); (refine take_op (i := 2) (v := ?_) rfl (by kernel_rfl) (by kernel_rfl) (by kernel_rfl) (fun _ _ _ h => h) (by rfl) ?_ hHeld ?_; rotate_left; (· (intro wS hSw; (try dsimp only at hSw); go_simp; first | done | with_reducible rfl)); simp only [Act.put, List.setIfInBounds_toArray, List.set_cons_zero, List.set_cons_succ]); (refine take_op (i := 3) (v := ?_) rfl (by kernel_rfl) (by kernel_rfl) (by kernel_rfl) (fun _ _ _ h => h) (by rfl) ?_ hHeld ?_; rotate_left; (· (intro wS hSw; (try dsimp only at hSw); go_simp; first | done | with_reducible rfl)); simp only [Act.put, List.setIfInBounds_toArray, List.set_cons_zero, List.set_cons_succ])
          (refine call_op (i := 4) rfl (by kernel_rfl) (by rfl) (fun K hK => ?_); go_simp; (go_at_call 7; (with_reducible refine (Hck.out _ _ _ (i9.out.keep q1)).mono ?_); rintro e w5 ⟨rfl, hb5⟩; replace QX := QX.keep hb5; replace QR := QR.keep hb5; replace Q6 := Q6.keep hb5; replace q1 := below_call q1 hb5 q1.size; replace qk := below_call qk hb5 qk.size); refine hK.out _ _ ⟨QX.cell, Q6.cell⟩ (fun hHeld2 => ?_); clear hK K hHeld; have hHeld := hHeld2; clear hHeld2; (try simp only [Act.put, List.setIfInBounds_toArray, List.set_cons_zero, List.set_cons_succ]))
          (refine take_op (i := 5) (v := ?_) rfl (by kernel_rfl) (by kernel_rfl) (by kernel_rfl) (fun _ _ _ h => h) (by rfl) ?_ hHeld ?_; rotate_left; (· (intro wS hSw; (try dsimp only at hSw); go_simp; first | done | with_reducible rfl)); simp only [Act.put, List.setIfInBounds_toArray, List.set_cons_zero, List.set_cons_succ]); (refine take_op (i := 6) (v := ?_) rfl (by kernel_rfl) (by kernel_rfl) (by kernel_rfl) (fun _ _ _ h => h) (by rfl) ?_ hHeld ?_; rotate_left; (· (intro wS hSw; (try dsimp only at hSw); go_simp; first | done | with_reducible rfl)); simp only [Act.put, List.setIfInBounds_toArray, List.set_cons_zero, List.set_cons_succ]); (refine take_op (i := 7) (v := ?_) rfl (by kernel_rfl) (by kernel_rfl) (by kernel_rfl) (fun _ _ _ h => h) (by rfl) ?_ hHeld ?_; rotate_left; (· (intro wS hSw; (try dsimp only at hSw); go_simp; first | done | with_reducible rfl)); simp only [Act.put, List.setIfInBounds_toArray, List.set_cons_zero, List.set_cons_succ])
          (refine skip_op (i := 8) rfl (by kernel_rfl) (by kernel_rfl) (by kernel_rfl) (fun _ _ _ h => h) (by rfl) hHeld ?_; simp only [Act.put, List.setIfInBounds_toArray, List.set_cons_zero, List.set_cons_succ]); (refine skip_op (i := 9) rfl (by kernel_rfl) (by kernel_rfl) (by kernel_rfl) (fun _ _ _ h => h) (by rfl) hHeld ?_; simp only [Act.put, List.setIfInBounds_toArray, List.set_cons_zero, List.set_cons_succ]); (refine skip_op (i := 10) rfl (by kernel_rfl) (by kernel_rfl) (by kernel_rfl) (fun _ _ _ h => h) (by rfl) hHeld ?_; simp only [Act.put, List.setIfInBounds_toArray, List.set_cons_zero, List.set_cons_succ]); (refine skip_op (i := 11) rfl (by kernel_rfl) (by kernel_rfl) (by kernel_rfl) (fun _ _ _ h => h) (by rfl) hHeld ?_; simp only [Act.put, List.setIfInBounds_toArray, List.set_cons_zero, List.set_cons_succ]); (refine skip_op (i := 12) rfl (by kernel_rfl) (by kernel_rfl) (by kernel_rfl) (fun _ _ _ h => h) (by rfl) hHeld ?_; simp only [Act.put, List.setIfInBounds_toArray, List.set_cons_zero, List.set_cons_succ])
          (refine take_op (i := 13) (v := ?_) rfl (by kernel_rfl) (by kernel_rfl) (by kernel_rfl) (fun _ _ _ h => h) (by rfl) ?_ hHeld ?_; rotate_left; (· (intro wS hSw; (try dsimp only at hSw); go_simp; first | done | with_reducible rfl)); simp only [Act.put, List.setIfInBounds_toArray, List.set_cons_zero, List.set_cons_succ])
          (refine wpAnyH_done (by kernel_rfl) ?_ _)
          have QRc := QR.cell
          have QRf := QR.frozen
          have Q6c := Q6.cell
          clear hHeld
          go_wp2_with fail
          refine bodyPost_ret (v := .tuple #[.agg #[.slice none 0 0, .int .i64 0, .int .i64 0], .bool false]) (by simp [results, Try.results15, go_sem, *] <;> rfl) rfl ?_
          obtain rfl := HRES.out
          exact ⟨none, 0, by first | rfl | simp [azero], IdsAt.nil, ⟨Nat.le_refl _, fun ad h => (by cases h)⟩, by ((repeat' first | with_reducible exact Below.refl _ _ | with_reducible assumption | with_reducible refine Below.alloc ?_ ?_ _ | with_reducible refine Below.setCell ?_ ?_ _ | with_reducible apply Below.drew | with_reducible apply below_drewN | with_reducible refine below_call ?_ (by with_reducible assumption) ?_) <;> (first | omega | (simp; done) | (simp; omega) | (simp at *; omega)))⟩
        subst z7
        cases R
        · have QX := PX.drew
          have QR := PR.drew
          have Q6 := P6.drew
          have q1 := kb1.drew
          have qk := kk.drew
          (refine wp_region_held_drew (S := (S11 w.heap.size g6 #[.int .i64 k, .int .u64 (n : Int), .string s, .slice (some ⟨eb, eo, none⟩) 3 c] #[.slice A9 G.length c9, .int .i64 (clamp n1 : Int), .int .i64 (clamp n0 : Int)])) (by kernel_rfl) ?_ (fun hHeld => ?_); (· exact ⟨QX.cell, Q6.cell⟩))
          revert hHeld QX QR Q6 q1 qk
          generalize World.drew _ = wd
          intro QX QR Q6 q1 qk hHeld
          (refine take_op (i := 0) (v := ?_) rfl (by kernel_rfl) (by kernel_rfl) (by kernel_rfl) (fun _ _ _ h => h) (by rfl) ?_ hHeld ?_; rotate_left; (· (intro wS hSw; (try dsimp only at hSw); go_simp; first | done | with_reducible rfl)); simp only [Act.put, List.setIfInBounds_toArray, List.set_cons_zero, List.set_cons_succ]); (refine take_op (i := 1) (v := ?_) rfl (by kernel_rfl) (by kernel_rfl) (by kernel_rfl) (fun _ _ _ h => h) (by rfl) ?_ hHeld ?_; rotate_left; (· (intro wS hSw; (try dsimp only at hSw); go_simp; first | done | with_reducible rfl)); simp only [Act.put, List.setIfInBounds_toArray, List.set_cons_zero, List.set_cons_succ]); (refine take_op (i := 2) (v := ?_) rfl (by kernel_rfl) (by kernel_rfl) (by kernel_rfl) (fun _ _ _ h => h) (by rfl) ?_ hHeld ?_; rotate_left; (· (intro wS hSw; (try dsimp only at hSw); go_simp; first | done | with_reducible rfl)); simp only [Act.put, List.setIfInBounds_toArray, List.set_cons_zero, List.set_cons_succ]); (refine take_op (i := 3) (v := ?_) rfl (by kernel_rfl) (by kernel_rfl) (by kernel_rfl) (fun _ _ _ h => h) (by rfl) ?_ hHeld ?_; rotate_left; (· (intro wS hSw; (try dsimp only at hSw); go_simp; first | done | with_reducible rfl)); simp only [Act.put, List.setIfInBounds_toArray, List.set_cons_zero, List.set_cons_succ])
          (refine call_op (i := 4) rfl (by kernel_rfl) (by rfl) (fun K hK => ?_); go_simp; (go_at_call 7; (with_reducible refine (Hck.out _ _ _ (i9.out.keep q1)).mono ?_); rintro e w5 ⟨rfl, hb5⟩; replace QX := QX.keep hb5; replace QR := QR.keep hb5; replace Q6 := Q6.keep hb5; replace q1 := below_call q1 hb5 q1.size; replace qk := below_call qk hb5 qk.size); refine hK.out _ _ ⟨QX.cell, Q6.cell⟩ (fun hHeld2 => ?_); clear hK K hHeld; have hHeld := hHeld2; clear hHeld2; (try simp only [Act.put, List.setIfInBounds_toArray, List.set_cons_zero, List.set_cons_succ]))
          (refine take_op (i := 5) (v := ?_) rfl (by kernel_rfl) (by kernel_rfl) (by kernel_rfl) (fun _ _ _ h => h) (by rfl) ?_ hHeld ?_; rotate_left; (· (intro wS hSw; (try dsimp only at hSw); go_simp; first | done | with_reducible rfl)); simp only [Act.put, List.setIfInBounds_toArray, List.set_cons_zero, List.set_cons_succ]); (refine take_op (i := 6) (v := ?_) rfl (by kernel_rfl) (by kernel_rfl) (by kernel_rfl) (fun _ _ _ h => h) (by rfl) ?_ hHeld ?_; rotate_left; (· (intro wS hSw; (try dsimp only at hSw); go_simp; first | done | with_reducible rfl)); simp only [Act.put, List.setIfInBounds_toArray, List.set_cons_zero, List.set_cons_succ]); (refine take_op (i := 7) (v := ?_) rfl (by kernel_rfl) (by kernel_rfl) (by kernel_rfl) (fun _ _ _ h => h) (by rfl) ?_ hHeld ?_; rotate_left; (· (intro wS hSw; (try dsimp only at hSw); go_simp; first | done | with_reducible rfl)); simp only [Act.put, List.setIfInBounds_toArray, List.set_cons_zero, List.set_cons_succ]); (refine take_op (i := 8) (v := ?_) rfl (by kernel_rfl) (by kernel_rfl) (by kernel_rfl) (fun _ _ _ h => h) (by rfl) ?_ hHeld ?_; rotate_left; (· (intro wS hSw; (try dsimp only at hSw); go_simp; first | done | with_reducible rfl)); simp only [Act.put, List.setIfInBounds_toArray, List.set_cons_zero, List.set_cons_succ]); (refine take_op (i := 9) (v := ?_) rfl (by kernel_rfl) (by kernel_rfl) (by kernel_rfl) (fun _ _ _ h => h) (by rfl) ?_ hHeld ?_; rotate_left; (· (intro wS hSw; (try dsimp only at hSw); go_simp; first | done | with_reducible rfl)); simp only [Act.put, List.setIfInBounds_toArray, List.set_cons_zero, List.set_cons_succ])
          (refine call_op (i := 10) rfl (by kernel_rfl) (by rfl) (fun K hK => ?_); go_simp; (go_at_call 11; (with_reducible refine (Hit.out _ _ _ (i9.out.keep q1)).mono ?_); rintro e w6 ⟨A6, c6, rfl, hi6, hb6⟩; replace QX := QX.keep hb6; replace QR := QR.keep hb6; replace Q6 := Q6.keep hb6; replace q1 := below_call q1 hb6 q1.size; replace qk := below_call qk hb6 qk.size); refine hK.out _ _ ⟨QX.cell, Q6.cell⟩ (fun hHeld2 => ?_); clear hK K hHeld; have hHeld := hHeld2; clear hHeld2; (try simp only [Act.put, List.setIfInBounds_toArray, List.set_cons_zero, List.set_cons_succ]))
          (refine call_op (i := 11) rfl (by kernel_rfl) (by rfl) (fun K hK => ?_); go_simp; (go_at_call 35; (with_reducible refine (Hsm.out _ _ qk hi6.holds).mono ?_); rintro e w7 ⟨rfl, hb7⟩; replace QX := QX.keep hb7; replace QR := QR.keep hb7; replace Q6 := Q6.keep hb7; replace q1 := below_call q1 hb7 q1.size; replace qk := below_call qk hb7 qk.size); refine hK.out _ _ ⟨QX.cell, Q6.cell⟩ (fun hHeld2 => ?_); clear hK K hHeld; have hHeld := hHeld2; clear hHeld2; (try simp only [Act.put, List.setIfInBounds_toArray, List.set_cons_zero, List.set_cons_succ]))
          (refine take_op (i := 12) (v := ?_) rfl (by kernel_rfl) (by kernel_rfl) (by kernel_rfl) (fun _ _ _ h => h) (by rfl) ?_ hHeld ?_; rotate_left; (· (intro wS hSw; (try dsimp only at hSw); go_simp; first | done | with_reducible rfl)); simp only [Act.put, List.setIfInBounds_toArray, List.set_cons_zero, List.set_cons_succ]); (refine take_op (i := 13) (v := ?_) rfl (by kernel_rfl) (by kernel_rfl) (by kernel_rfl) (fun _ _ _ h => h) (by rfl) ?_ hHeld ?_; rotate_left; (· (intro wS hSw; (try dsimp only at hSw); go_simp; first | done | with_reducible rfl)); simp only [Act.put, List.setIfInBounds_toArray, List.set_cons_zero, List.set_cons_succ])
          (refine wpAnyH_done (by kernel_rfl) ?_ _)
          have QRc := QR.cell
          have QRf := QR.frozen
          have Q6c := Q6.cell
          clear hHeld
          go_wp2_with fail
          refine bodyPost_ret (v := .tuple #[.agg #[.slice none 0 0, .int .i64 0, .int .i64 0], .bool false]) (by simp [results, Try.results15, go_sem, *] <;> rfl) rfl ?_
          obtain rfl := HRES.out
          exact ⟨none, 0, by first | rfl | simp [azero], IdsAt.nil, ⟨Nat.le_refl _, fun ad h => (by cases h)⟩, by ((repeat' first | with_reducible exact Below.refl _ _ | with_reducible assumption | with_reducible refine Below.alloc ?_ ?_ _ | with_reducible refine Below.setCell ?_ ?_ _ | with_reducible apply Below.drew | with_reducible apply below_drewN | with_reducible refine below_call ?_ (by with_reducible assumption) ?_) <;> (first | omega | (simp; done) | (simp; omega) | (simp at *; omega)))⟩
        · have QX := PX.drew
          have QR := PR.drew
          have Q6 := P6.drew
          have q1 := kb1.drew
          have qk := kk.drew
          (refine wp_region_held_drew (S := (S11 w.heap.size g6 #[.int .i64 k, .int .u64 (n : Int), .string s, .slice (some ⟨eb, eo, none⟩) 3 c] #[.slice A9 G.length c9, .int .i64 (clamp n1 : Int), .int .i64 (clamp n0 : Int)])) (by kernel_rfl) ?_ (fun hHeld => ?_); (· exact ⟨QX.cell, Q6.cell⟩))
          revert hHeld QX QR Q6 q1 qk
          generalize World.drew _ = wd
          intro QX QR Q6 q1 qk hHeld
          (refine take_op (i := 0) (v := ?_) rfl (by kernel_rfl) (by kernel_rfl) (by kernel_rfl) (fun _ _ _ h => h) (by rfl) ?_ hHeld ?_; rotate_left; (· (intro wS hSw; (try dsimp only at hSw); go_simp; first | done | with_reducible rfl)); simp only [Act.put, List.setIfInBounds_toArray, List.set_cons_zero, List.set_cons_succ]); (refine take_op (i := 1) (v := ?_) rfl (by kernel_rfl) (by kernel_rfl) (by kernel_rfl) (fun _ _ _ h => h) (by rfl) ?_ hHeld ?_; rotate_left; (· (intro wS hSw; (try dsimp only at hSw); go_simp; first | done | with_reducible rfl)); simp only [Act.put, List.setIfInBounds_toArray, List.set_cons_zero, List.set_cons_succ]); (refine take_op (i := 2) (v := ?_) rfl (by kernel_rfl) (by kernel_rfl) (by kernel_rfl) (fun _ _ _ h => h) (by rfl) ?_ hHeld ?_; rotate_left; (· (intro wS hSw; (try dsimp only at hSw); go_simp; first | done | with_reducible rfl)); simp only [Act.put, List.setIfInBounds_toArray, List.set_cons_zero, List.set_cons_succ]); (refine take_op (i := 3) (v := ?_) rfl (by kernel_rfl) (by kernel_rfl) (by kernel_rfl) (fun _ _ _ h => h) (by rfl) ?_ hHeld ?_; rotate_left; (· (intro wS hSw; (try dsimp only at hSw); go_simp; first | done | with_reducible rfl)); simp only [Act.put, List.setIfInBounds_toArray, List.set_cons_zero, List.set_cons_succ])
          (refine call_op (i := 4) rfl (by kernel_rfl) (by rfl) (fun K hK => ?_); go_simp; (go_at_call 7; (with_reducible refine (Hck.out _ _ _ (i9.out.keep q1)).mono ?_); rintro e w5 ⟨rfl, hb5⟩; replace QX := QX.keep hb5; replace QR := QR.keep hb5; replace Q6 := Q6.keep hb5; replace q1 := below_call q1 hb5 q1.size; replace qk := below_call qk hb5 qk.size); refine hK.out _ _ ⟨QX.cell, Q6.cell⟩ (fun hHeld2 => ?_); clear hK K hHeld; have hHeld := hHeld2; clear hHeld2; (try simp only [Act.put, List.setIfInBounds_toArray, List.set_cons_zero, List.set_cons_succ]))
          (refine take_op (i := 5) (v := ?_) rfl (by kernel_rfl) (by kernel_rfl) (by kernel_rfl) (fun _ _ _ h => h) (by rfl) ?_ hHeld ?_; rotate_left; (· (intro wS hSw; (try dsimp only at hSw); go_simp; first | done | with_reducible rfl)); simp only [Act.put, List.setIfInBounds_toArray, List.set_cons_zero, List.set_cons_succ]); (refine take_op (i := 6) (v := ?_) rfl (by kernel_rfl) (by kernel_rfl) (by kernel_rfl) (fun _ _ _ h => h) (by rfl) ?_ hHeld ?_; rotate_left; (· (intro wS hSw; (try dsimp only at hSw); go_simp; first | done | with_reducible rfl)); simp only [Act.put, List.setIfInBounds_toArray, List.set_cons_zero, List.set_cons_succ]); (refine take_op (i := 7) (v := ?_) rfl (by kernel_rfl) (by kernel_rfl) (by kernel_rfl) (fun _ _ _ h => h) (by rfl) ?_ hHeld ?_; rotate_left; (· (intro wS hSw; (try dsimp only at hSw); go_simp; first | done | with_reducible rfl)); simp only [Act.put, List.setIfInBounds_toArray, List.set_cons_zero, List.set_cons_succ]); (refine take_op (i := 8) (v := ?_) rfl (by kernel_rfl) (by kernel_rfl) (by kernel_rfl) (fun _ _ _ h => h) (by rfl) ?_ hHeld ?_; rotate_left; (· (intro wS hSw; (try dsimp only at hSw); go_simp; first | done | with_reducible rfl)); simp only [Act.put, List.setIfInBounds_toArray, List.set_cons_zero, List.set_cons_succ]); (refine take_op (i := 9) (v := ?_) rfl (by kernel_rfl) (by kernel_rfl) (by kernel_rfl) (fun _ _ _ h => h) (by rfl) ?_ hHeld ?_; rotate_left; (· (intro wS hSw; (try dsimp only at hSw); go_simp; first | done | with_reducible rfl)); simp only [Act.put, List.setIfInBounds_toArray, List.set_cons_zero, List.set_cons_succ])
          (refine call_op (i := 10) rfl (by kernel_rfl) (by rfl) (fun K hK => ?_); go_simp; (go_at_call 11; (with_reducible refine (Hit.out _ _ _ (i9.out.keep q1)).mono ?_); rintro e w6 ⟨A6, c6, rfl, hi6, hb6⟩; replace QX := QX.keep hb6; replace QR := QR.keep hb6; replace Q6 := Q6.keep hb6; replace q1 := below_call q1 hb6 q1.size; replace qk := below_call qk hb6 qk.size); refine hK.out _ _ ⟨QX.cell, Q6.cell⟩ (fun hHeld2 => ?_); clear hK K hHeld; have hHeld := hHeld2; clear hHeld2; (try simp only [Act.put, List.setIfInBounds_toArray, List.set_cons_zero, List.set_cons_succ]))
          (refine call_op (i := 11) rfl (by kernel_rfl) (by rfl) (fun K hK => ?_); go_simp; (go_at_call 35; (with_reducible refine (Hsm.out _ _ qk hi6.holds).mono ?_); rintro e w7 ⟨rfl, hb7⟩; replace QX := QX.keep hb7; replace QR := QR.keep hb7; replace Q6 := Q6.keep hb7; replace q1 := below_call q1 hb7 q1.size; replace qk := below_call qk hb7 qk.size); refine hK.out _ _ ⟨QX.cell, Q6.cell⟩ (fun hHeld2 => ?_); clear hK K hHeld; have hHeld := hHeld2; clear hHeld2; (try simp only [Act.put, List.setIfInBounds_toArray, List.set_cons_zero, List.set_cons_succ]))
          (refine take_op (i := 12) (v := ?_) rfl (by kernel_rfl) (by kernel_rfl) (by kernel_rfl) (fun _ _ _ h => h) (by rfl) ?_ hHeld ?_; rotate_left; (· (intro wS hSw; (try dsimp only at hSw); go_simp; first | done | with_reducible rfl)); simp only [Act.put, List.setIfInBounds_toArray, List.set_cons_zero, List.set_cons_succ]); (refine take_op (i := 13) (v := ?_) rfl (by kernel_rfl) (by kernel_rfl) (by kernel_rfl) (fun _ _ _ h => h) (by rfl) ?_ hHeld ?_; rotate_left; (· (intro wS hSw; (try dsimp only at hSw); go_simp; first | done | with_reducible rfl)); simp only [Act.put, List.setIfInBounds_toArray, List.set_cons_zero, List.set_cons_succ])
          (refine wpAnyH_done (by kernel_rfl) ?_ _)
          have QRc := QR.cell
          have QRf := QR.frozen
          have Q6c := Q6.cell
          clear hHeld
          go_wp2_with fail
          refine bodyPost_ret (v := .tuple #[.agg #[.slice A9 G.length c9, .int .i64 (clamp n1 : Int), .int .i64 (clamp n0 : Int)], .bool true]) (by simp [results, Try.results15, go_sem, *] <;> rfl) rfl ?_
          obtain rfl := HRES.out
          have hq : ∀ ad, A9 = some ad → ad.block ≠ w.heap.size + 1 := fun ad e => (by have := le9.2 ad e; simp at this; omega)
          exact ⟨A9, c9, rfl, (((i9.out.keep q1).set (p := ⟨w.heap.size + 1, 0, none⟩) hq _).set (p := ⟨w.heap.size + 1, 1, none⟩) hq _).set (p := ⟨w.heap.size + 1, 2, none⟩) hq _, ⟨le9.1, fun ad e => (by have := le9.2 ad e; simp at this; omega)⟩, by ((repeat' first | with_reducible exact Below.refl _ _ | with_reducible assumption | with_reducible refine Below.alloc ?_ ?_ _ | with_reducible refine Below.setCell ?_ ?_ _ | with_reducible apply Below.drew | with_reducible apply below_drewN | with_reducible refine below_call ?_ (by with_reducible assumption) ?_) <;> (first | omega | (simp; done) | (simp; omega) | (simp at *; omega)))⟩
    · (intro K hK; go_simp; skip; refine hK.out _ _ (mkS _ (kk.alloc kk.size (.cells #[.slice none 0 0, .int .i64 0, .int .i64 0] 24)) (PX.alloc (.cells #[.slice none 0 0, .int .i64 0, .int .i64 0] 24))) (fun hHeld2 => ?_); clear hK K hHeld; have hHeld := hHeld2; clear hHeld2; (try simp only [Act.put, List.setIfInBounds_toArray, List.set_cons_zero, List.set_cons_succ]))
      have P6 := Blk.new w2 24 #[.slice none 0 0, .int .i64 0, .int .i64 0]
      have hz6 : w1.heap.size ≤ (w2).heap.size := kb1.size
      replace PX := PX.alloc (.cells #[.slice none 0 0, .int .i64 0, .int .i64 0] 24)
      replace PR := PR.alloc (.cells #[.slice none 0 0, .int .i64 0, .int .i64 0] 24)
      replace kb1 := kb1.alloc kb1.size (.cells #[.slice none 0 0, .int .i64 0, .int .i64 0] 24)
      replace kk := kk.alloc kk.size (.cells #[.slice none 0 0, .int .i64 0, .int .i64 0] 24)
      revert hHeld P6 hz6 PX PR kb1 kk
      generalize World.alloc w2 _ = w9
      generalize (w2).heap.size = g6
      intro hHeld P6 hz6 PX PR kb1 kk
      (refine call_op (i := 10) rfl (by kernel_rfl) (by rfl) (fun K hK => ?_); go_simp; (go_at_call 34; (with_reducible refine (Hnu0.out _ kk).mono ?_); rintro e w3 ⟨rfl, hb3⟩; replace PX := PX.keep hb3; replace PR := PR.keep hb3; replace kb1 := below_call kb1 hb3 kb1.size; replace kk := below_call kk hb3 kk.size; replace P6 := P6.keep hb3); refine hK.out _ _ (mkS _ kk PX) (fun hHeld2 => ?_); clear hK K hHeld; have hHeld := hHeld2; clear hHeld2; (try simp only [Act.put, List.setIfInBounds_toArray, List.set_cons_zero, List.set_cons_succ]))
      (refine take_op (i := 11) (v := ?_) rfl (by kernel_rfl) (by kernel_rfl) (by kernel_rfl) (fun _ _ _ h => h) (by rfl) ?_ hHeld ?_; rotate_left; (· (intro wS hSw; (try dsimp only at hSw); go_simp; first | done | with_reducible rfl)); simp only [Act.put, List.setIfInBounds_toArray, List.set_cons_zero, List.set_cons_succ])
      have P6c := P6.cell
      have P6f := P6.frozen
      have PS : Blk (((w3.setCell ⟨g6, 0, none⟩ (.slice A9 G.length c9)).setCell ⟨g6, 1, none⟩ (.int .i64 (clamp n1 : Int))).setCell ⟨g6, 2, none⟩ (.int .i64 (clamp n0 : Int))) g6 24 #[.slice A9 G.length c9, .int .i64 (clamp n1 : Int), .int .i64 (clamp n0 : Int)] := by
        have := ((P6.set_ 0 (.slice A9 G.length c9)).set_ 1 (.int .i64 (clamp n1 : Int))).set_ 2 (.int .i64 (clamp n0 : Int))
        simpa using this
      replace PX := ((PX.far (p := ⟨g6, 0, none⟩) (by simp; omega) (.slice A9 G.length c9)).far (p := ⟨g6, 1, none⟩) (by simp; omega) (.int .i64 (clamp n1 : Int))).far (p := ⟨g6, 2, none⟩) (by simp; omega) (.int .i64 (clamp n0 : Int))
      replace PR := ((PR.far (p := ⟨g6, 0, none⟩) (by simp; omega) (.slice A9 G.length c9)).far (p := ⟨g6, 1, none⟩) (by simp; omega) (.int .i64 (clamp n1 : Int))).far (p := ⟨g6, 2, none⟩) (by simp; omega) (.int .i64 (clamp n0 : Int))
      replace kb1 := ((kb1.setCell (p := ⟨g6, 0, none⟩) hz6 (.slice A9 G.length c9)).setCell (p := ⟨g6, 1, none⟩) hz6 (.int .i64 (clamp n1 : Int))).setCell (p := ⟨g6, 2, none⟩) hz6 (.int .i64 (clamp n0 : Int))
      replace kk := ((kk.setCell (p := ⟨g6, 0, none⟩) (by simp; omega) (.slice A9 G.length c9)).setCell (p := ⟨g6, 1, none⟩) (by simp; omega) (.int .i64 (clamp n1 : Int))).setCell (p := ⟨g6, 2, none⟩) (by simp; omega) (.int .i64 (clamp n0 : Int))
      (refine call_op (i := 13) rfl (by kernel_rfl) (by rfl) (fun K hK => ?_); go_simp; skip; refine hK.out _ _ (mkS _ kk PX) (fun hHeld2 => ?_); clear hK K hHeld; have hHeld := hHeld2; clear hHeld2; (try simp only [Act.put, List.setIfInBounds_toArray, List.set_cons_zero, List.set_cons_succ]))
      clear P6c P6f P6 hHeld mkS
      (refine wpAnyH_done (by kernel_rfl) ?_ _)
      revert PS PX PR kb1 kk
      generalize World.setCell (World.setCell (World.setCell _ ⟨g6, 0, none⟩ _) ⟨g6, 1, none⟩ _) ⟨g6, 2, none⟩ _ = W4
      intro P6 PX PR kb1 kk
      go_upto_region 5 with fail
      cases b
      · have QX := PX.drew
        have QR := PR.drew
        have Q6 := P6.drew
        have q1 := kb1.drew
        have qk := kk.drew
        (refine wp_region_held_drew (S := (S11 w.heap.size g6 #[.int .i64 k, .int .u64 (n : Int), .string s, .slice (some ⟨eb, eo, none⟩) 3 c] #[.slice A9 G.length c9, .int .i64 (clamp n1 : Int), .int .i64 (clamp n0 : Int)])) (by kernel_rfl) ?_ (fun hHeld => ?_); (· exact ⟨QX.cell, Q6.cell⟩))
        revert hHeld QX QR Q6 q1 qk
        generalize World.drew _ = wd
        intro QX QR Q6 q1 qk hHeld
        (refine take_op (i := 0) (v := ?_) rfl (by kernel_rfl) (by kernel_rfl) (by kernel_rfl) (fun _ _ _ h => h) (by rfl) ?_ hHeld ?_; rotate_left; (· (intro wS hSw; (try dsimp only at hSw); go_simp; first | done | with_reducible rfl)); simp only [Act.put, List.setIfInBounds_toArray, List.set_cons_zero, List.set_cons_succ]); (refine take_op (i := 1) (v := ?_) rfl (by kernel_rfl) (by kernel_rfl) (by kernel_rfl) (fun _ _ _ h => h) (by rfl) ?_ hHeld ?_; rotate_left; (· (intro wS hSw; (try dsimp only at hSw); go_simp; first | done | with_reducible rfl)); simp only [Act.put, List.setIfInBounds_toArray, List.set_cons_zero, List.set_cons_succ]); (refine take_op (i := 2) (v := ?_) rfl (by kernel_rfl) (by kernel_rfl) (by kernel_rfl) (fun _ _ _ h => h) (by rfl) ?_ hHeld ?_; rotate_left; (· (intro wS hSw; (try dsimp only at hSw); go_simp; first | done | with_reducible rfl)); simp only [Act.put, List.setIfInBounds_toArray, List.set_cons_zero, List.set_cons_succ])
        (refine skip_op (i := 3) rfl (by kernel_rfl) (by kernel_rfl) (by kernel_rfl) (fun _ _ _ h => h) (by rfl) hHeld ?_; simp only [Act.put, List.setIfInBounds_toArray, List.set_cons_zero, List.set_cons_succ]); (refine skip_op (i := 4) rfl (by kernel_rfl) (by kernel_rfl) (by kernel_rfl) (fun _ _ _ h => h) (by rfl) hHeld ?_; simp only [Act.put, List.setIfInBounds_toArray, List.set_cons_zero, List.set_cons_succ]); (refine skip_op (i := 5) rfl (by kernel_rfl) (by kernel_rfl) (by kernel_rfl) (fun _ _ _ h => h) (by rfl) hHeld ?_; simp only [Act.put, List.setIfInBounds_toArray, List.set_cons_zero, List.set_cons_succ])
        (refine take_op (i := 6) (v := ?_) rfl (by kernel_rfl) (by kernel_rfl) (by kernel_rfl) (fun _ _ _ h => h) (by rfl) ?_ hHeld ?_; rotate_left; (· (intro wS hSw; (try dsimp only at hSw); go_simp; first | done | with_reducible rfl)); simp only [Act.put, List.setIfInBounds_toArray, List.set_cons_zero, List.set_cons_succ]); (refine take_op (i := 7) (v := ?_) rfl (by kernel_rfl) (by kernel_rfl) (by kernel_rfl) (fun _ _ _ h => h) (by rfl) ?_ hHeld ?_; rotate_left; (· (intro wS hSw; (try dsimp only at hSw); go_simp; first | done | with_reducible rfl)); simp only [Act.put, List.setIfInBounds_toArray, List.set_cons_zero, List.set_cons_succ])
        (refine skip_op (i := 8) rfl (by kernel_rfl) (by kernel_rfl) (by kernel_rfl) (fun _ _ _ h => h) (by rfl) hHeld ?_; simp only [Act.put, List.setIfInBounds_toArray, List.set_cons_zero, List.set_cons_succ]); (refine skip_op (i := 9) rfl (by kernel_rfl) (by kernel_rfl) (by kernel_rfl) (fun _ _ _ h => h) (by rfl) hHeld ?_; simp only [Act.put, List.setIfInBounds_toArray, List.set_cons_zero, List.set_cons_succ]); (refine skip_op (i := 10) rfl (by kernel_rfl) (by kernel_rfl) (by kernel_rfl) (fun _ _ _ h => h) (by rfl) hHeld ?_; simp only [Act.put, List.setIfInBounds_toArray, List.set_cons_zero, List.set_cons_succ]); (refine skip_op (i := 11) rfl (by kernel_rfl) (by kernel_rfl) (by kernel_rfl) (fun _ _ _ h => h) (by rfl) hHeld ?_; simp only [Act.put, List.setIfInBounds_toArray, List.set_cons_zero, List.set_cons_succ]); (refine skip_op (i := 12) rfl (by kernel_rfl) (by kernel_rfl) (by kernel_rfl) (fun _ _ _ h => h) (by rfl) hHeld ?_; simp only [Act.put, List.setIfInBounds_toArray, List.set_cons_zero, List.set_cons_succ])
        (refine take_op (i := 13) (v := ?_) rfl (by kernel_rfl) (by kernel_rfl) (by kernel_rfl) (fun _ _ _ h => h) (by rfl) ?_ hHeld ?_; rotate_left; (· (intro wS hSw; (try dsimp only at hSw); go_simp; first | done | with_reducible rfl)); simp only [Act.put, List.setIfInBounds_toArray, List.set_cons_zero, List.set_cons_succ])
        (refine wpAnyH_done (by kernel_rfl) ?_ _)
        have QRc := QR.cell
        have QRf := QR.frozen
        have Q6c := Q6.cell
        clear hHeld
        go_wp2_with fail
        refine bodyPost_ret (v := .tuple #[.agg #[.slice none 0 0, .int .i64 0, .int .i64 0], .bool false]) (by simp [results, Try.results15, go_sem, *] <;> rfl) rfl ?_
        obtain rfl := HRES.out
        exact ⟨none, 0, by first | rfl | simp [azero], IdsAt.nil, ⟨Nat.le_refl _, fun ad h => (by cases h)⟩, by ((repeat' first | with_reducible exact Below.refl _ _ | with_reducible assumption | with_reducible refine Below.alloc ?_ ?_ _ | with_reducible refine Below.setCell ?_ ?_ _ | with_reducible apply Below.drew | with_reducible apply below_drewN | with_reducible refine below_call ?_ (by with_reducible assumption) ?_) <;> (first | omega | (simp; done) | (simp; omega) | (simp at *; omega)))⟩
      · by_cases z7 : g7 = 0
        case neg =>
          have z7' : ((g7 : Int) != 0) = true := by simp; omega
          rw [decide_eq_false z7] at HRES
          have QX := PX.drew
          have QR := PR.drew
          have Q6 := P6.drew
          have q1 := kb1.drew
          have qk := kk.drew
          (refine wp_region_held_drew (S := (S11 w.heap.size g6 #[.int .i64 k, .int .u64 (n : Int), .string s, .slice (some ⟨eb, eo, none⟩) 3 c] #[.slice A9 G.length c9, .int .i64 (clamp n1 : Int), .int .i64 (clamp n0 : Int)])) (by kernel_rfl) ?_ (fun hHeld => ?_); (· exact ⟨QX.cell, Q6.cell⟩))
          revert hHeld QX QR Q6 q1 qk
          generalize World.drew _ = wd
          intro QX QR Q6 q1 qk hHeld
          (refine take_op (i := 0) (v := ?_) rfl (by kernel_rfl) (by kernel_rfl) (by kernel_rfl) (fun _ _ _ h => h) (by rfl) ?_ hHeld ?_; rotate_left; (· (intro wS hSw; (try dsimp only at hSw); go_simp; first | done | with_reducible rfl)); simp only [Act.put, List.setIfInBounds_toArray, List.set_cons_zero, List.set_cons_succ]); (refine take_op (i := 1) (v := ?_) rfl (by kernel_rfl) (by kernel_rfl) (by kernel_rfl) (fun _ _ _ h => h) (by rfl) ?_ hHeld ?_; rotate_left; (· (intro wS hSw; (try dsimp only at hSw); go_simp; first | done | with_reducible rfl)); simp only [Act.put, List.setIfInBounds_toArray, List.set_cons_zero, List.set_cons_succ]); (refine take_op (i := 2) (v := ?_) rfl (by kernel_rfl) (by kernel_rfl) (by kernel_rfl) (fun _ _ _ h => h) (by rfl) ?_ hHeld ?_; rotate_left; (· (intro wS hSw; (try dsimp only at hSw); go_simp; first | done | with_reducible rfl)); simp only [Act.put, List.setIfInBounds_toArray, List.set_cons_zero, List.set_cons_succ]); (refine take_op (i := 3) (v := ?_) rfl (by kernel_rfl) (by kernel_rfl) (by kernel_rfl) (fun _ _ _ h => h) (by rfl) ?_ hHeld ?_; rotate_left; (· (intro wS hSw; (try dsimp only at hSw); go_simp; first | done | with_reducible rfl)); simp only [Act.put, List.setIfInBounds_toArray, List.set_cons_zero, List.set_cons_succ])
          (refine call_op (i := 4) rfl (by kernel_rfl) (by rfl) (fun K hK => ?_); go_simp; (go_at_call 7; (with_reducible refine (Hck.out _ _ _ (i9.out.keep q1)).mono ?_); rintro e w5 ⟨rfl, hb5⟩; replace QX := QX.keep hb5; replace QR := QR.keep hb5; replace Q6 := Q6.keep hb5; replace q1 := below_call q1 hb5 q1.size; replace qk := below_call qk hb5 qk.size); refine hK.out _ _ ⟨QX.cell, Q6.cell⟩ (fun hHeld2 => ?_); clear hK K hHeld; have hHeld := hHeld2; clear hHeld2; (try simp only [Act.put, List.setIfInBounds_toArray, List.set_cons_zero, List.set_cons_succ]))
          (refine take_op (i := 5) (v := ?_) rfl (by kernel_rfl) (by kernel_rfl) (by kernel_rfl) (fun _ _ _ h => h) (by rfl) ?_ hHeld ?_; rotate_left; (· (intro wS hSw; (try dsimp only at hSw); go_simp; first | done | with_reducible rfl)); simp only [Act.put, List.setIfInBounds_toArray, List.set_cons_zero, List.set_cons_succ]); (refine take_op (i := 6) (v := ?_) rfl (by kernel_rfl) (by kernel_rfl) (by kernel_rfl) (fun _ _ _ h => h) (by rfl) ?_ hHeld ?_; rotate_left; (· (intro wS hSw; (try dsimp only at hSw); go_simp; first | done | with_reducible rfl)); simp only [Act.put, List.setIfInBounds_toArray, List.set_cons_zero, List.set_cons_succ]); (refine take_op (i := 7) (v := ?_) rfl (by kernel_rfl) (by kernel_rfl) (by kernel_rfl) (fun _ _ _ h => h) (by rfl) ?_ hHeld ?_; rotate_left; (· (intro wS hSw; (try dsimp only at hSw); go_simp; first | done | with_reducible rfl)); simp only [Act.put, List.setIfInBounds_toArray, List.set_cons_zero, List.set_cons_succ])
          (refine skip_op (i := 8) rfl (by kernel_rfl) (by kernel_rfl) (by kernel_rfl) (fun _ _ _ h => h) (by rfl) hHeld ?_; simp only [Act.put, List.setIfInBounds_toArray, List.set_cons_zero, List.set_cons_succ]); (refine skip_op (i := 9) rfl (by kernel_rfl) (by kernel_rfl) (by kernel_rfl) (fun _ _ _ h => h) (by rfl) hHeld ?_; simp only [Act.put, List.setIfInBounds_toArray, List.set_cons_zero, List.set_cons_succ]); (refine skip_op (i := 10) rfl (by kernel_rfl) (by kernel_rfl) (by kernel_rfl) (fun _ _ _ h => h) (by rfl) hHeld ?_; simp only [Act.put, List.setIfInBounds_toArray, List.set_cons_zero, List.set_cons_succ]); (refine skip_op (i := 11) rfl (by kernel_rfl) (by kernel_rfl) (by kernel_rfl) (fun _ _ _ h => h) (by rfl) hHeld ?_; simp only [Act.put, List.setIfInBounds_toArray, List.set_cons_zero, List.set_cons_succ]); (refine skip_op (i := 12) rfl (by kernel_rfl) (by kernel_rfl) (by kernel_rfl) (fun _ _ _ h => h) (by rfl) hHeld ?_; simp only [Act.put, List.setIfInBounds_toArray, List.set_cons_zero, List.set_cons_succ])
          (refine take_op (i := 13) (v := ?_) rfl (by kernel_rfl) (by kernel_rfl) (by kernel_rfl) (fun _ _ _ h => h) (by rfl) ?_ hHeld ?_; rotate_left; (· (intro wS hSw; (try dsimp only at hSw); go_simp; first | done | with_reducible rfl)); simp only [Act.put, List.setIfInBounds_toArray, List.set_cons_zero, List.set_cons_succ])
          (refine wpAnyH_done (by kernel_rfl) ?_ _)
          have QRc := QR.cell
          have QRf := QR.frozen
          have Q6c := Q6.cell
          clear hHeld
          go_wp2_with fail
          refine bodyPost_ret (v := .tuple #[.agg #[.slice none 0 0, .int .i64 0, .int .i64 0], .bool false]) (by simp [results, Try.results15, go_sem, *] <;> rfl) rfl ?_
          obtain rfl := HRES.out
          exact ⟨none, 0, by first | rfl | simp [azero], IdsAt.nil, ⟨Nat.le_refl _, fun ad h => (by cases h)⟩, by ((repeat' first | with_reducible exact Below.refl _ _ | with_reducible assumption | with_reducible refine Below.alloc ?_ ?_ _ | with_reducible refine Below.setCell ?_ ?_ _ | with_reducible apply Below.drew | with_reducible apply below_drewN | with_reducible refine below_call ?_ (by with_reducible assumption) ?_) <;> (first | omega | (simp; done) | (simp; omega) | (simp at *; omega)))⟩
        subst z7
        cases R
        · have QX := PX.drew
          have QR := PR.drew
          have Q6 := P6.drew
          have q1 := kb1.drew
          have qk := kk.drew
          (refine wp_region_held_drew (S := (S11 w.heap.size g6 #[.int .i64 k, .int .u64 (n : Int), .string s, .slice (some ⟨eb, eo, none⟩) 3 c] #[.slice A9 G.length c9, .int .i64 (clamp n1 : Int), .int .i64 (clamp n0 : Int)])) (by kernel_rfl) ?_ (fun hHeld => ?_); (· exact ⟨QX.cell, Q6.cell⟩))
          revert hHeld QX QR Q6 q1 qk
          generalize World.drew _ = wd
          intro QX QR Q6 q1 qk hHeld
          (refine take_op (i := 0) (v := ?_) rfl (by kernel_rfl) (by kernel_rfl) (by kernel_rfl) (fun _ _ _ h => h) (by rfl) ?_ hHeld ?_; rotate_left; (· (intro wS hSw; (try dsimp only at hSw); go_simp; first | done | with_reducible rfl)); simp only [Act.put, List.setIfInBounds_toArray, List.set_cons_zero, List.set_cons_succ]); (refine take_op (i := 1) (v := ?_) rfl (by kernel_rfl) (by kernel_rfl) (by kernel_rfl) (fun _ _ _ h => h) (by rfl) ?_ hHeld ?_; rotate_left; (· (intro wS hSw; (try dsimp only at hSw); go_simp; first | done | with_reducible rfl)); simp only [Act.put, List.setIfInBounds_toArray, List.set_cons_zero, List.set_cons_succ]); (refine take_op (i := 2) (v := ?_) rfl (by kernel_rfl) (by kernel_rfl) (by kernel_rfl) (fun _ _ _ h => h) (by rfl) ?_ hHeld ?_; rotate_left; (· (intro wS hSw; (try dsimp only at hSw); go_simp; first | done | with_reducible rfl)); simp only [Act.put, List.setIfInBounds_toArray, List.set_cons_zero, List.set_cons_succ]); (refine take_op (i := 3) (v := ?_) rfl (by kernel_rfl) (by kernel_rfl) (by kernel_rfl) (fun _ _ _ h => h) (by rfl) ?_ hHeld ?_; rotate_left; (· (intro wS hSw; (try dsimp only at hSw); go_simp; first | done | with_reducible rfl)); simp only [Act.put, List.setIfInBounds_toArray, List.set_cons_zero, List.set_cons_succ])
          (refine call_op (i := 4) rfl (by kernel_rfl) (by rfl) (fun K hK => ?_); go_simp; (go_at_call 7; (with_reducible refine (Hck.out _ _ _ (i9.out.keep q1)).mono ?_); rintro e w5 ⟨rfl, hb5⟩; replace QX := QX.keep hb5; replace QR := QR.keep hb5; replace Q6 := Q6.keep hb5; replace q1 := below_call q1 hb5 q1.size; replace qk := below_call qk hb5 qk.size); refine hK.out _ _ ⟨QX.cell, Q6.cell⟩ (fun hHeld2 => ?_); clear hK K hHeld; have hHeld := hHeld2; clear hHeld2; (try simp only [Act.put, List.setIfInBounds_toArray, List.set_cons_zero, List.set_cons_succ]))
          (refine take_op (i := 5) (v := ?_) rfl (by kernel_rfl) (by kernel_rfl) (by kernel_rfl) (fun _ _ _ h => h) (by rfl) ?_ hHeld ?_; rotate_left; (· (intro wS hSw; (try dsimp only at hSw); go_simp; first | done | with_reducible rfl)); simp only [Act.put, List.setIfInBounds_toArray, List.set_cons_zero, List.set_cons_succ]); (refine take_op (i := 6) (v := ?_) rfl (by kernel_rfl) (by kernel_rfl) (by kernel_rfl) (fun _ _ _ h => h) (by rfl) ?_ hHeld ?_; rotate_left; (· (intro wS hSw; (try dsimp only at hSw); go_simp; first | done | with_reducible rfl)); simp only [Act.put, List.setIfInBounds_toArray, List.set_cons_zero, List.set_cons_succ]); (refine take_op (i := 7) (v := ?_) rfl (by kernel_rfl) (by kernel_rfl) (by kernel_rfl) (fun _ _ _ h => h) (by rfl) ?_ hHeld ?_; rotate_left; (· (intro wS hSw; (try dsimp only at hSw); go_simp; first | done | with_reducible rfl)); simp only [Act.put, List.setIfInBounds_toArray, List.set_cons_zero, List.set_cons_succ]); (refine take_op (i := 8) (v := ?_) rfl (by kernel_rfl) (by kernel_rfl) (by kernel_rfl) (fun _ _ _ h => h) (by rfl) ?_ hHeld ?_; rotate_left; (· (intro wS hSw; (try dsimp only at hSw); go_simp; first | done | with_reducible rfl)); simp only [Act.put, List.setIfInBounds_toArray, List.set_cons_zero, List.set_cons_succ]); (refine take_op (i := 9) (v := ?_) rfl (by kernel_rfl) (by kernel_rfl) (by kernel_rfl) (fun _ _ _ h => h) (by rfl) ?_ hHeld ?_; rotate_left; (· (intro wS hSw; (try dsimp only at hSw); go_simp; first | done | with_reducible rfl)); simp only [Act.put, List.setIfInBounds_toArray, List.set_cons_zero, List.set_cons_succ])
          (refine call_op (i := 10) rfl (by kernel_rfl) (by rfl) (fun K hK => ?_); go_simp; (go_at_call 11; (with_reducible refine (Hit.out _ _ _ (i9.out.keep q1)).mono ?_); rintro e w6 ⟨A6, c6, rfl, hi6, hb6⟩; replace QX := QX.keep hb6; replace QR := QR.keep hb6; replace Q6 := Q6.keep hb6; replace q1 := below_call q1 hb6 q1.size; replace qk := below_call qk hb6 qk.size); refine hK.out _ _ ⟨QX.cell, Q6.cell⟩ (fun hHeld2 => ?_); clear hK K hHeld; have hHeld := hHeld2; clear hHeld2; (try simp only [Act.put, List.setIfInBounds_toArray, List.set_cons_zero, List.set_cons_succ]))
          (refine call_op (i := 11) rfl (by kernel_rfl) (by rfl) (fun K hK => ?_); go_simp; (go_at_call 35; (with_reducible refine (Hsm.out _ _ qk hi6.holds).mono ?_); rintro e w7 ⟨rfl, hb7⟩; replace QX := QX.keep hb7; replace QR := QR.keep hb7; replace Q6 := Q6.keep hb7; replace q1 := below_call q1 hb7 q1.size; replace qk := below_call qk hb7 qk.size); refine hK.out _ _ ⟨QX.cell, Q6.cell⟩ (fun hHeld2 => ?_); clear hK K hHeld; have hHeld := hHeld2; clear hHeld2; (try simp only [Act.put, List.setIfInBounds_toArray, List.set_cons_zero, List.set_cons_succ]))
          (refine take_op (i := 12) (v := ?_) rfl (by kernel_rfl) (by kernel_rfl) (by kernel_rfl) (fun _ _ _ h => h) (by rfl) ?_ hHeld ?_; rotate_left; (· (intro wS hSw; (try dsimp only at hSw); go_simp; first | done | with_reducible rfl)); simp only [Act.put, List.setIfInBounds_toArray, List.set_cons_zero, List.set_cons_succ]); (refine take_op (i := 13) (v := ?_) rfl (by kernel_rfl) (by kernel_rfl) (by kernel_rfl) (fun _ _ _ h => h) (by rfl) ?_ hHeld ?_; rotate_left; (· (intro wS hSw; (try dsimp only at hSw); go_simp; first | done | with_reducible rfl)); simp only [Act.put, List.setIfInBounds_toArray, List.set_cons_zero, List.set_cons_succ])
          (refine wpAnyH_done (by kernel_rfl) ?_ _)
          have QRc := QR.cell
          have QRf := QR.frozen
          have Q6c := Q6.cell
          clear hHeld
          go_wp2_with fail
          refine bodyPost_ret (v := .tuple #[.agg #[.slice none 0 0, .int .i64 0, .int .i64 0], .bool false]) (by simp [results, Try.results15, go_sem, *] <;> rfl) rfl ?_
          obtain rfl := HRES.out
          exact ⟨none, 0, by first | rfl | simp [azero], IdsAt.nil, ⟨Nat.le_refl _, fun ad h => (by cases h)⟩, by ((repeat' first | with_reducible exact Below.refl _ _ | with_reducible assumption | with_reducible refine Below.alloc ?_ ?_ _ | with_reducible refine Below.setCell ?_ ?_ _ | with_reducible apply Below.drew | with_reducible apply below_drewN | with_reducible refine below_call ?_ (by with_reducible assumption) ?_) <;> (first | omega | (simp; done) | (simp; omega) | (simp at *; omega)))⟩
        · have QX := PX.drew
          have QR := PR.drew
          have Q6 := P6.drew
          have q1 := kb1.drew
          have qk := kk.drew
          (refine wp_region_held_drew (S := (S11 w.heap.size g6 #[.int .i64 k, .int .u64 (n : Int), .string s, .slice (some ⟨eb, eo, none⟩) 3 c] #[.slice A9 G.length c9, .int .i64 (clamp n1 : Int), .int .i64 (clamp n0 : Int)])) (by kernel_rfl) ?_ (fun hHeld => ?_); (· exact ⟨QX.cell, Q6.cell⟩))
          revert hHeld QX QR Q6 q1 qk
          generalize World.drew _ = wd
          intro QX QR Q6 q1 qk hHeld
          (refine take_op (i := 0) (v := ?_) rfl (by kernel_rfl) (by kernel_rfl) (by kernel_rfl) (fun _ _ _ h => h) (by rfl) ?_ hHeld ?_; rotate_left; (· (intro wS hSw; (try dsimp only at hSw); go_simp; first | done | with_reducible rfl)); simp only [Act.put, List.setIfInBounds_toArray, List.set_cons_zero, List.set_cons_succ]); (refine take_op (i := 1) (v := ?_) rfl (by kernel_rfl) (by kernel_rfl) (by kernel_rfl) (fun _ _ _ h => h) (by rfl) ?_ hHeld ?_; rotate_left; (· (intro wS hSw; (try dsimp only at hSw); go_simp; first | done | with_reducible rfl)); simp only [Act.put, List.setIfInBounds_toArray, List.set_cons_zero, List.set_cons_succ]); (refine take_op (i := 2) (v := ?_) rfl (by kernel_rfl) (by kernel_rfl) (by kernel_rfl) (fun _ _ _ h => h) (by rfl) ?_ hHeld ?_; rotate_left; (· (intro wS hSw; (try dsimp only at hSw); go_simp; first | done | with_reducible rfl)); simp only [Act.put, List.setIfInBounds_toArray, List.set_cons_zero, List.set_cons_succ]); (refine take_op (i := 3) (v := ?_) rfl (by kernel_rfl) (by kernel_rfl) (by kernel_rfl) (fun _ _ _ h => h) (by rfl) ?_ hHeld ?_; rotate_left; (· (intro wS hSw; (try dsimp only at hSw); go_simp; first | done | with_reducible rfl)); simp only [Act.put, List.setIfInBounds_toArray, List.set_cons_zero, List.set_cons_succ])
          (refine call_op (i := 4) rfl (by kernel_rfl) (by rfl) (fun K hK => ?_); go_simp; (go_at_call 7; (with_reducible refine (Hck.out _ _ _ (i9.out.keep q1)).mono ?_); rintro e w5 ⟨rfl, hb5⟩; replace QX := QX.keep hb5; replace QR := QR.keep hb5; replace Q6 := Q6.keep hb5; replace q1 := below_call q1 hb5 q1.size; replace qk := below_call qk hb5 qk.size); refine hK.out _ _ ⟨QX.cell, Q6.cell⟩ (fun hHeld2 => ?_); clear hK K hHeld; have hHeld := hHeld2; clear hHeld2; (try simp only [Act.put, List.setIfInBounds_toArray, List.set_cons_zero, List.set_cons_succ]))
          (refine take_op (i := 5) (v := ?_) rfl (by kernel_rfl) (by kernel_rfl) (by kernel_rfl) (fun _ _ _ h => h) (by rfl) ?_ hHeld ?_; rotate_left; (· (intro wS hSw; (try dsimp only at hSw); go_simp; first | done | with_reducible rfl)); simp only [Act.put, List.setIfInBounds_toArray, List.set_cons_zero, List.set_cons_succ]); (refine take_op (i := 6) (v := ?_) rfl (by kernel_rfl) (by kernel_rfl) (by kernel_rfl) (fun _ _ _ h => h) (by rfl) ?_ hHeld ?_; rotate_left; (· (intro wS hSw; (try dsimp only at hSw); go_simp; first | done | with_reducible rfl)); simp only [Act.put, List.setIfInBounds_toArray, List.set_cons_zero, List.set_cons_succ]); (refine take_op (i := 7) (v := ?_) rfl (by kernel_rfl) (by kernel_rfl) (by kernel_rfl) (fun _ _ _ h => h) (by rfl) ?_ hHeld ?_; rotate_left; (· (intro wS hSw; (try dsimp only at hSw); go_simp; first | done | with_reducible rfl)); simp only [Act.put, List.setIfInBounds_toArray, List.set_cons_zero, List.set_cons_succ]); (refine take_op (i := 8) (v := ?_) rfl (by kernel_rfl) (by kernel_rfl) (by kernel_rfl) (fun _ _ _ h => h) (by rfl) ?_ hHeld ?_; rotate_left; (· (intro wS hSw; (try dsimp only at hSw); go_simp; first | done | with_reducible rfl)); simp only [Act.put, List.setIfInBounds_toArray, List.set_cons_zero, List.set_cons_succ]); (refine take_op (i := 9) (v := ?_) rfl (by kernel_rfl) (by kernel_rfl) (by kernel_rfl) (fun _ _ _ h => h) (by rfl) ?_ hHeld ?_; rotate_left; (· (intro wS hSw; (try dsimp only at hSw); go_simp; first | done | with_reducible rfl)); simp only [Act.put, List.setIfInBounds_toArray, List.set_cons_zero, List.set_cons_succ])
          (refine call_op (i := 10) rfl (by kernel_rfl) (by rfl) (fun K hK => ?_); go_simp; (go_at_call 11; (with_reducible refine (Hit.out _ _ _ (i9.out.keep q1)).mono ?_); rintro e w6 ⟨A6, c6, rfl, hi6, hb6⟩; replace QX := QX.keep hb6; replace QR := QR.keep hb6; replace Q6 := Q6.keep hb6; replace q1 := below_call q1 hb6 q1.size; replace qk := below_call qk hb6 qk.size); refine hK.out _ _ ⟨QX.cell, Q6.cell⟩ (fun hHeld2 => ?_); clear hK K hHeld; have hHeld := hHeld2; clear hHeld2; (try simp only [Act.put, List.setIfInBounds_toArray, List.set_cons_zero, List.set_cons_succ]))
          (refine call_op (i := 11) rfl (by kernel_rfl) (by rfl) (fun K hK => ?_); go_simp; (go_at_call 35; (with_reducible refine (Hsm.out _ _ qk hi6.holds).mono ?_); rintro e w7 ⟨rfl, hb7⟩; replace QX := QX.keep hb7; replace QR := QR.keep hb7; replace Q6 := Q6.keep hb7; replace q1 := below_call q1 hb7 q1.size; replace qk := below_call qk hb7 qk.size); refine hK.out _ _ ⟨QX.cell, Q6.cell⟩ (fun hHeld2 => ?_); clear hK K hHeld; have hHeld := hHeld2; clear hHeld2; (try simp only [Act.put, List.setIfInBounds_toArray, List.set_cons_zero, List.set_cons_succ]))
          (refine take_op (i := 12) (v := ?_) rfl (by kernel_rfl) (by kernel_rfl) (by kernel_rfl) (fun _ _ _ h => h) (by rfl) ?_ hHeld ?_; rotate_left; (· (intro wS hSw; (try dsimp only at hSw); go_simp; first | done | with_reducible rfl)); simp only [Act.put, List.setIfInBounds_toArray, List.set_cons_zero, List.set_cons_succ]); (refine take_op (i := 13) (v := ?_) rfl (by kernel_rfl) (by kernel_rfl) (by kernel_rfl) (fun _ _ _ h => h) (by rfl) ?_ hHeld ?_; rotate_left; (· (intro wS hSw; (try dsimp only at hSw); go_simp; first | done | with_reducible rfl)); simp only [Act.put, List.setIfInBounds_toArray, List.set_cons_zero, List.set_cons_succ])
          (refine wpAnyH_done (by kernel_rfl) ?_ _)
          have QRc := QR.cell
          have QRf := QR.frozen
          have Q6c := Q6.cell
          clear hHeld
          go_wp2_with fail
          refine bodyPost_ret (v := .tuple #[.agg #[.slice A9 G.length c9, .int .i64 (clamp n1 : Int), .int .i64 (clamp n0 : Int)], .bool true]) (by simp [results, Try.results15, go_sem, *] <;> rfl) rfl ?_
          obtain rfl := HRES.out
          have hq : ∀ ad, A9 = some ad → ad.block ≠ w.heap.size + 1 := fun ad e => (by have := le9.2 ad e; simp at this; omega)
          exact ⟨A9, c9, rfl, (((i9.out.keep q1).set (p := ⟨w.heap.size + 1, 0, none⟩) hq _).set (p := ⟨w.heap.size + 1, 1, none⟩) hq _).set (p := ⟨w.heap.size + 1, 2, none⟩) hq _, ⟨le9.1, fun ad e => (by have := le9.2 ad e; simp at this; omega)⟩, by ((repeat' first | with_reducible exact Below.refl _ _ | with_reducible assumption | with_reducible refine Below.alloc ?_ ?_ _ | with_reducible refine Below.setCell ?_ ?_ _ | with_reducible apply Below.drew | with_reducible apply below_drewN | with_reducible refine below_call ?_ (by with_reducible assumption) ?_) <;> (first | omega | (simp; done) | (simp; omega) | (simp at *; omega)))⟩
  · (intro K hK; go_simp; skip; refine hK.out _ _ (mkS _ (kk.alloc kk.size (.cells #[.slice none 0 0, .int .i64 0, .int .i64 0] 24)) (PX.alloc (.cells #[.slice none 0 0, .int .i64 0, .int .i64 0] 24))) (fun hHeld2 => ?_); clear hK K hHeld; have hHeld := hHeld2; clear hHeld2; (try simp only [Act.put, List.setIfInBounds_toArray, List.set_cons_zero, List.set_cons_succ]))
    have P6 := Blk.new wd 24 #[.slice none 0 0, .int .i64 0, .int .i64 0]
    have hz6 : w1.heap.size ≤ (wd).heap.size := kb1.size
    replace PX := PX.alloc (.cells #[.slice none 0 0, .int .i64 0, .int .i64 0] 24)
    replace PR := PR.alloc (.cells #[.slice none 0 0, .int .i64 0, .int .i64 0] 24)
    replace kb1 := kb1.alloc kb1.size (.cells #[.slice none 0 0, .int .i64 0, .int .i64 0] 24)
    replace kk := kk.alloc kk.size (.cells #[.slice none 0 0, .int .i64 0, .int .i64 0] 24)
    revert hHeld P6 hz6 PX PR kb1 kk
    generalize World.alloc wd _ = w9
    generalize (wd).heap.size = g6
    intro hHeld P6 hz6 PX PR kb1 kk
    (refine call_op (i := 5) rfl (by kernel_rfl) (by rfl) (fun K hK => ?_); go_simp; (go_at_call 34; (with_reducible refine (Hnu1.out _ kk).mono ?_); rintro e w2 ⟨rfl, hb2⟩; replace PX := PX.keep hb2; replace PR := PR.keep hb2; replace kb1 := below_call kb1 hb2 kb1.size; replace kk := below_call kk hb2 kk.size; replace P6 := P6.keep hb2); refine hK.out _ _ (mkS _ kk PX) (fun hHeld2 => ?_); clear hK K hHeld; have hHeld := hHeld2; clear hHeld2; (try simp only [Act.put, List.setIfInBounds_toArray, List.set_cons_zero, List.set_cons_succ]))
    (refine call_op (i := 10) rfl (by kernel_rfl) (by rfl) (fun K hK => ?_); go_simp; (go_at_call 34; (with_reducible refine (Hnu0.out _ kk).mono ?_); rintro e w3 ⟨rfl, hb3⟩; replace PX := PX.keep hb3; replace PR := PR.keep hb3; replace kb1 := below_call kb1 hb3 kb1.size; replace kk := below_call kk hb3 kk.size; replace P6 := P6.keep hb3); refine hK.out _ _ (mkS _ kk PX) (fun hHeld2 => ?_); clear hK K hHeld; have hHeld := hHeld2; clear hHeld2; (try simp only [Act.put, List.setIfInBounds_toArray, List.set_cons_zero, List.set_cons_succ]))
    (refine take_op (i := 11) (v := ?_) rfl (by kernel_rfl) (by kernel_rfl) (by kernel_rfl) (fun _ _ _ h => h) (by rfl) ?_ hHeld ?_; rotate_left; (· (intro wS hSw; (try dsimp only at hSw); go_simp; first | done | with_reducible rfl)); simp only [Act.put, List.setIfInBounds_toArray, List.set_cons_zero, List.set_cons_succ])
    have P6c := P6.cell
    have P6f := P6.frozen
    have PS : Blk (((w3.setCell ⟨g6, 0, none⟩ (.slice A9 G.length c9)).setCell ⟨g6, 1, none⟩ (.int .i64 (clamp n1 : Int))).setCell ⟨g6, 2, none⟩ (.int .i64 (clamp n0 : Int))) g6 24 #[.slice A9 G.length c9, .int .i64 (clamp n1 : Int), .int .i64 (clamp n0 : Int)] := by
      have := ((P6.set_ 0 (.slice A9 G.length c9)).set_ 1 (.int .i64 (clamp n1 : Int))).set_ 2 (.int .i64 (clamp n0 : Int))
      simpa using this
    replace PX := ((PX.far (p := ⟨g6, 0, none⟩) (by simp; omega) (.slice A9 G.length c9)).far (p := ⟨g6, 1, none⟩) (by simp; omega) (.int .i64 (clamp n1 : Int))).far (p := ⟨g6, 2, none⟩) (by simp; omega) (.int .i64 (clamp n0 : Int))
    replace PR := ((PR.far (p := ⟨g6, 0, none⟩) (by simp; omega) (.slice A9 G.length c9)).far (p := ⟨g6, 1, none⟩) (by simp; omega) (.int .i64 (clamp n1 : Int))).far (p := ⟨g6, 2, none⟩) (by simp; omega) (.int .i64 (clamp n0 : Int))
    replace kb1 := ((kb1.setCell (p := ⟨g6, 0, none⟩) hz6 (.slice A9 G.length c9)).setCell (p := ⟨g6, 1, none⟩) hz6 (.int .i64 (clamp n1 : Int))).setCell (p := ⟨g6, 2, none⟩) hz6 (.int .i64 (clamp n0 : Int))
    replace kk := ((kk.setCell (p := ⟨g6, 0, none⟩) (by simp; omega) (.slice A9 G.length c9)).setCell (p := ⟨g6, 1, none⟩) (by simp; omega) (.int .i64 (clamp n1 : Int))).setCell (p := ⟨g6, 2, none⟩) (by simp; omega) (.int .i64 (clamp n0 : Int))
    (refine call_op (i := 13) rfl (by kernel_rfl) (by rfl) (fun K hK => ?_); go_simp; skip; refine hK.out _ _ (mkS _ kk PX) (fun hHeld2 => ?_); clear hK K hHeld; have hHeld := hHeld2; clear hHeld2; (try simp only [Act.put, List.setIfInBounds_toArray, List.set_cons_zero, List.set_cons_succ]))
    clear P6c P6f P6 hHeld mkS
    (refine wpAnyH_done (by kernel_rfl) ?_ _)
    revert PS PX PR kb1 kk
    generalize World.setCell (World.setCell (World.setCell _ ⟨g6, 0, none⟩ _) ⟨g6, 1, none⟩ _) ⟨g6, 2, none⟩ _ = W4
    intro P6 PX PR kb1 kk
    go_upto_region 5 with fail
    cases b
    · have QX := PX.drew
      have QR := PR.drew
      have Q6 := P6.drew
      have q1 := kb1.drew
      have qk := kk.drew
      (refine wp_region_held_drew (S := (S11 w.heap.size g6 #[.int .i64 k, .int .u64 (n : Int), .string s, .slice (some ⟨eb, eo, none⟩) 3 c] #[.slice A9 G.length c9, .int .i64 (clamp n1 : Int), .int .i64 (clamp n0 : Int)])) (by kernel_rfl) ?_ (fun hHeld => ?_); (· exact ⟨QX.cell, Q6.cell⟩))
      revert hHeld QX QR Q6 q1 qk
      generalize World.drew _ = wd
      intro QX QR Q6 q1 qk hHeld
      (refine take_op (i := 0) (v := ?_) rfl (by kernel_rfl) (by kernel_rfl) (by kernel_rfl) (fun _ _ _ h => h) (by rfl) ?_ hHeld ?_; rotate_left; (· (intro wS hSw; (try dsimp only at hSw); go_simp; first | done | with_reducible rfl)); simp only [Act.put, List.setIfInBounds_toArray, List.set_cons_zero, List.set_cons_succ]); (refine take_op (i := 1) (v := ?_) rfl (by kernel_rfl) (by kernel_rfl) (by kernel_rfl) (fun _ _ _ h => h) (by rfl) ?_ hHeld ?_; rotate_left; (· (intro wS hSw; (try dsimp only at hSw); go_simp; first | done | with_reducible rfl)); simp only [Act.put, List.setIfInBounds_toArray, List.set_cons_zero, List.set_cons_succ]); (refine take_op (i := 2) (v := ?_) rfl (by kernel_rfl) (by kernel_rfl) (by kernel_rfl) (fun _ _ _ h => h) (by rfl) ?_ hHeld ?_; rotate_left; (· (intro wS hSw; (try dsimp only at hSw); go_simp; first | done | with_reducible rfl)); simp only [Act.put, List.setIfInBounds_toArray, List.set_cons_zero, List.set_cons_succ])
      (refine skip_op (i := 3) rfl (by kernel_rfl) (by kernel_rfl) (by kernel_rfl) (fun _ _ _ h => h) (by rfl) hHeld ?_; simp only [Act.put, List.setIfInBounds_toArray, List.set_cons_zero, List.set_cons_succ]); (refine skip_op (i := 4) rfl (by kernel_rfl) (by kernel_rfl) (by kernel_rfl) (fun _ _ _ h => h) (by rfl) hHeld ?_; simp only [Act.put, List.setIfInBounds_toArray, List.set_cons_zero, List.set_cons_succ]); (refine skip_op (i := 5) rfl (by kernel_rfl) (by kernel_rfl) (by kernel_rfl) (fun _ _ _ h => h) (by rfl) hHeld ?_; simp only [Act.put, List.setIfInBounds_toArray, List.set_cons_zero, List.set_cons_succ])
      (refine take_op (i := 6) (v := ?_) rfl (by kernel_rfl) (by kernel_rfl) (by kernel_rfl) (fun _ _ _ h => h) (by rfl) ?_ hHeld ?_; rotate_left; (· (intro wS hSw; (try dsimp only at hSw); go_simp; first | done | with_reducible rfl)); simp only [Act.put, List.setIfInBounds_toArray, List.set_cons_zero, List.set_cons_succ]); (refine take_op (i := 7) (v := ?_) rfl (by kernel_rfl) (by kernel_rfl) (by kernel_rfl) (fun _ _ _ h => h) (by rfl) ?_ hHeld ?_; rotate_left; (· (intro wS hSw; (try dsimp only at hSw); go_simp; first | done | with_reducible rfl)); simp only [Act.put, List.setIfInBounds_toArray, List.set_cons_zero, List.set_cons_succ])
      (refine skip_op (i := 8) rfl (by kernel_rfl) (by kernel_rfl) (by kernel_rfl) (fun _ _ _ h => h) (by rfl) hHeld ?_; simp only [Act.put, List.setIfInBounds_toArray, List.set_cons_zero, List.set_cons_succ]); (refine skip_op (i := 9) rfl (by kernel_rfl) (by kernel_rfl) (by kernel_rfl) (fun _ _ _ h => h) (by rfl) hHeld ?_; simp only [Act.put, List.setIfInBounds_toArray, List.set_cons_zero, List.set_cons_succ]); (refine skip_op (i := 10) rfl (by kernel_rfl) (by kernel_rfl) (by kernel_rfl) (fun _ _ _ h => h) (by rfl) hHeld ?_; simp only [Act.put, List.setIfInBounds_toArray, List.set_cons_zero, List.set_cons_succ]); (refine skip_op (i := 11) rfl (by kernel_rfl) (by kernel_rfl) (by kernel_rfl) (fun _ _ _ h => h) (by rfl) hHeld ?_; simp only [Act.put, List.setIfInBounds_toArray, List.set_cons_zero, List.set_cons_succ]); (refine skip_op (i := 12) rfl (by kernel_rfl) (by kernel_rfl) (by kernel_rfl) (fun _ _ _ h => h) (by rfl) hHeld ?_; simp only [Act.put, List.setIfInBounds_toArray, List.set_cons_zero, List.set_cons_succ])
      (refine take_op (i := 13) (v := ?_) rfl (by kernel_rfl) (by kernel_rfl) (by kernel_rfl) (fun _ _ _ h => h) (by rfl) ?_ hHeld ?_; rotate_left; (· (intro wS hSw; (try dsimp only at hSw); go_simp; first | done | with_reducible rfl)); simp only [Act.put, List.setIfInBounds_toArray, List.set_cons_zero, List.set_cons_succ])
      (refine wpAnyH_done (by kernel_rfl) ?_ _)
      have QRc := QR.cell
      have QRf := QR.frozen
      have Q6c := Q6.cell
      clear hHeld
      go_wp2_with fail
      refine bodyPost_ret (v := .tuple #[.agg #[.slice none 0 0, .int .i64 0, .int .i64 0], .bool false]) (by simp [results, Try.results15, go_sem, *] <;> rfl) rfl ?_
      obtain rfl := HRES.out
      exact ⟨none, 0, by first | rfl | simp [azero], IdsAt.nil, ⟨Nat.le_refl _, fun ad h => (by cases h)⟩, by ((repeat' first | with_reducible exact Below.refl _ _ | with_reducible assumption | with_reducible refine Below.alloc ?_ ?_ _ | with_reducible refine Below.setCell ?_ ?_ _ | with_reducible apply Below.drew | with_reducible apply below_drewN | with_reducible refine below_call ?_ (by with_reducible assumption) ?_) <;> (first | omega | (simp; done) | (simp; omega) | (simp at *; omega)))⟩
    · by_cases z7 : g7 = 0
      case neg =>
        have z7' : ((g7 : Int) != 0) = true := by simp; omega
        rw [decide_eq_false z7] at HRES
        have QX := PX.drew
        have QR := PR.drew
        have Q6 := P6.drew
        have q1 := kb1.drew
        have qk := kk.drew
        (refine wp_region_held_drew (S := (S11 w.heap.size g6 #[.int .i64 k, .int .u64 (n : Int), .string s, .slice (some ⟨eb, eo, none⟩) 3 c] #[.slice A9 G.length c9, .int .i64 (clamp n1 : Int), .int .i64 (clamp n0 : Int)])) (by kernel_rfl) ?_ (fun hHeld => ?_); (· exact ⟨QX.cell, Q6.cell⟩))
        revert hHeld QX QR Q6 q1 qk
        generalize World.drew _ = wd
        intro QX QR Q6 q1 qk hHeld
        (refine take_op (i := 0) (v := ?_) rfl (by kernel_rfl) (by kernel_rfl) (by kernel_rfl) (fun _ _ _ h => h) (by rfl) ?_ hHeld ?_; rotate_left; (· (intro wS hSw; (try dsimp only at hSw); go_simp; first | done | with_reducible rfl)); simp only [Act.put, List.setIfInBounds_toArray, List.set_cons_zero, List.set_cons_succ]); (refine take_op (i := 1) (v := ?_) rfl (by kernel_rfl) (by kernel_rfl) (by kernel_rfl) (fun _ _ _ h => h) (by rfl) ?_ hHeld ?_; rotate_left; (· (intro wS hSw; (try dsimp only at hSw); go_simp; first | done | with_reducible rfl)); simp only [Act.put, List.setIfInBounds_toArray, List.set_cons_zero, List.set_cons_succ]); (refine take_op (i := 2) (v := ?_) rfl (by kernel_rfl) (by kernel_rfl) (by kernel_rfl) (fun _ _ _ h => h) (by rfl) ?_ hHeld ?_; rotate_left; (· (intro wS hSw; (try dsimp only at hSw); go_simp; first | done | with_reducible rfl)); simp only [Act.put, List.setIfInBounds_toArray, List.set_cons_zero, List.set_cons_succ]); (refine take_op (i := 3) (v := ?_) rfl (by kernel_rfl) (by kernel_rfl) (by kernel_rfl) (fun _ _ _ h => h) (by rfl) ?_ hHeld ?_; rotate_left; (· (intro wS hSw; (try dsimp only at hSw); go_simp; first | done | with_reducible rfl)); simp only [Act.put, List.setIfInBounds_toArray, List.set_cons_zero, List.set_cons_succ])
        (refine call_op (i := 4) rfl (by kernel_rfl) (by rfl) (fun K hK => ?_); go_simp; (go_at_call 7; (with_reducible refine (Hck.out _ _ _ (i9.out.keep q1)).mono ?_); rintro e w5 ⟨rfl, hb5⟩; replace QX := QX.keep hb5; replace QR := QR.keep hb5; replace Q6 := Q6.keep hb5; replace q1 := below_call q1 hb5 q1.size; replace qk := below_call qk hb5 qk.size); refine hK.out _ _ ⟨QX.cell, Q6.cell⟩ (fun hHeld2 => ?_); clear hK K hHeld; have hHeld := hHeld2; clear hHeld2; (try simp only [Act.put, List.setIfInBounds_toArray, List.set_cons_zero, List.set_cons_succ]))
        (refine take_op (i := 5) (v := ?_) rfl (by kernel_rfl) (by kernel_rfl) (by kernel_rfl) (fun _ _ _ h => h) (by rfl) ?_ hHeld ?_; rotate_left; (· (intro wS hSw; (try dsimp only at hSw); go_simp; first | done | with_reducible rfl)); simp only [Act.put, List.setIfInBounds_toArray, List.set_cons_zero, List.set_cons_succ]); (refine take_op (i := 6) (v := ?_) rfl (by kernel_rfl) (by kernel_rfl) (by kernel_rfl) (fun _ _ _ h => h) (by rfl) ?_ hHeld ?_; rotate_left; (· (intro wS hSw; (try dsimp only at hSw); go_simp; first | done | with_reducible rfl)); simp only [Act.put, List.setIfInBounds_toArray, List.set_cons_zero, List.set_cons_succ]); (refine take_op (i := 7) (v := ?_) rfl (by kernel_rfl) (by kernel_rfl) (by kernel_rfl) (fun _ _ _ h => h) (by rfl) ?_ hHeld ?_; rotate_left; (· (intro wS hSw; (try dsimp only at hSw); go_simp; first | done | with_reducible rfl)); simp only [Act.put, List.setIfInBounds_toArray, List.set_cons_zero, List.set_cons_succ])
        (refine skip_op (i := 8) rfl (by kernel_rfl) (by kernel_rfl) (by kernel_rfl) (fun _ _ _ h => h) (by rfl) hHeld ?_; simp only [Act.put, List.setIfInBounds_toArray, List.set_cons_zero, List.set_cons_succ]); (refine skip_op (i := 9) rfl (by kernel_rfl) (by kernel_rfl) (by kernel_rfl) (fun _ _ _ h => h) (by rfl) hHeld ?_; simp only [Act.put, List.setIfInBounds_toArray, List.set_cons_zero, List.set_cons_succ]); (refine skip_op (i := 10) rfl (by kernel_rfl) (by kernel_rfl) (by kernel_rfl) (fun _ _ _ h => h) (by rfl) hHeld ?_; simp only [Act.put, List.setIfInBounds_toArray, List.set_cons_zero, List.set_cons_succ]); (refine skip_op (i := 11) rfl (by kernel_rfl) (by kernel_rfl) (by kernel_rfl) (fun _ _ _ h => h) (by rfl) hHeld ?_; simp only [Act.put, List.setIfInBounds_toArray, List.set_cons_zero, List.set_cons_succ]); (refine skip_op (i := 12) rfl (by kernel_rfl) (by kernel_rfl) (by kernel_rfl) (fun _ _ _ h => h) (by rfl) hHeld ?_; simp only [Act.put, List.setIfInBounds_toArray, List.set_cons_zero, List.set_cons_succ])
        (refine take_op (i := 13) (v := ?_) rfl (by kernel_rfl) (by kernel_rfl) (by kernel_rfl) (fun _ _ _ h => h) (by rfl) ?_ hHeld ?_; rotate_left; (· (intro wS hSw; (try dsimp only at hSw); go_simp; first | done | with_reducible rfl)); simp only [Act.put, List.setIfInBounds_toArray, List.set_cons_zero, List.set_cons_succ])
        (refine wpAnyH_done (by kernel_rfl) ?_ _)
        have QRc := QR.cell
        have QRf := QR.frozen
        have Q6c := Q6.cell
        clear hHeld
        go_wp2_with fail
        refine bodyPost_ret (v := .tuple #[.agg #[.slice none 0 0, .int .i64 0, .int .i64 0], .bool false]) (by simp [results, Try.results15, go_sem, *] <;> rfl) rfl ?_
        obtain rfl := HRES.out
        exact ⟨none, 0, by first | rfl | simp [azero], IdsAt.nil, ⟨Nat.le_refl _, fun ad h => (by cases h)⟩, by ((repeat' first | with_reducible exact Below.refl _ _ | with_reducible assumption | with_reducible refine Below.alloc ?_ ?_ _ | with_reducible refine Below.setCell ?_ ?_ _ | with_reducible apply Below.drew | with_reducible apply below_drewN | with_reducible refine below_call ?_ (by with_reducible assumption) ?_) <;> (first | omega | (simp; done) | (simp; omega) | (simp at *; omega)))⟩
      subst z7
      cases R
      · have QX := PX.drew
        have QR := PR.drew
        have Q6 := P6.drew
        have q1 := kb1.drew
        have qk := kk.drew
        (refine wp_region_held_drew (S := (S11 w.heap.size g6 #[.int .i64 k, .int .u64 (n : Int), .string s, .slice (some ⟨eb, eo, none⟩) 3 c] #[.slice A9 G.length c9, .int .i64 (clamp n1 : Int), .int .i64 (clamp n0 : Int)])) (by kernel_rfl) ?_ (fun hHeld => ?_); (· exact ⟨QX.cell, Q6.cell⟩))
        revert hHeld QX QR Q6 q1 qk
        generalize World.drew _ = wd
        intro QX QR Q6 q1 qk hHeld
        (refine take_op (i := 0) (v := ?_) rfl (by kernel_rfl) (by kernel_rfl) (by kernel_rfl) (fun _ _ _ h => h) (by rfl) ?_ hHeld ?_; rotate_left; (· (intro wS hSw; (try dsimp only at hSw); go_simp; first | done | with_reducible rfl)); simp only [Act.put, List.setIfInBounds_toArray, List.set_cons_zero, List.set_cons_succ]); (refine take_op (i := 1) (v := ?_) rfl (by kernel_rfl) (by kernel_rfl) (by kernel_rfl) (fun _ _ _ h => h) (by rfl) ?_ hHeld ?_; rotate_left; (· (intro wS hSw; (try dsimp only at hSw); go_simp; first | done | with_reducible rfl)); simp only [Act.put, List.setIfInBounds_toArray, List.set_cons_zero, List.set_cons_succ]); (refine take_op (i := 2) (v := ?_) rfl (by kernel_rfl) (by kernel_rfl) (by kernel_rfl) (fun _ _ _ h => h) (by rfl) ?_ hHeld ?_; rotate_left; (· (intro wS hSw; (try dsimp only at hSw); go_simp; first | done | with_reducible rfl)); simp only [Act.put, List.setIfInBounds_toArray, List.set_cons_zero, List.set_cons_succ]); (refine take_op (i := 3) (v := ?_) rfl (by kernel_rfl) (by kernel_rfl) (by kernel_rfl) (fun _ _ _ h => h) (by rfl) ?_ hHeld ?_; rotate_left; (· (intro wS hSw; (try dsimp only at hSw); go_simp; first | done | with_reducible rfl)); simp only [Act.put, List.setIfInBounds_toArray, List.set_cons_zero, List.set_cons_succ])
        (refine call_op (i := 4) rfl (by kernel_rfl) (by rfl) (fun K hK => ?_); go_simp; (go_at_call 7; (with_reducible refine (Hck.out _ _ _ (i9.out.keep q1)).mono ?_); rintro e w5 ⟨rfl, hb5⟩; replace QX := QX.keep hb5; replace QR := QR.keep hb5; replace Q6 := Q6.keep hb5; replace q1 := below_call q1 hb5 q1.size; replace qk := below_call qk hb5 qk.size); refine hK.out _ _ ⟨QX.cell, Q6.cell⟩ (fun hHeld2 => ?_); clear hK K hHeld; have hHeld := hHeld2; clear hHeld2; (try simp only [Act.put, List.setIfInBounds_toArray, List.set_cons_zero, List.set_cons_succ]))
        (refine take_op (i := 5) (v := ?_) rfl (by kernel_rfl) (by kernel_rfl) (by kernel_rfl) (fun _ _ _ h => h) (by rfl) ?_ hHeld ?_; rotate_left; (· (intro wS hSw; (try dsimp only at hSw); go_simp; first | done | with_reducible rfl)); simp only [Act.put, List.setIfInBounds_toArray, List.set_cons_zero, List.set_cons_succ]); (refine take_op (i := 6) (v := ?_) rfl (by kernel_rfl) (by kernel_rfl) (by kernel_rfl) (fun _ _ _ h => h) (by rfl) ?_ hHeld ?_; rotate_left; (· (intro wS hSw; (try dsimp only at hSw); go_simp; first | done | with_reducible rfl)); simp only [Act.put, List.setIfInBounds_toArray, List.set_cons_zero, List.set_cons_succ]); (refine take_op (i := 7) (v := ?_) rfl (by kernel_rfl) (by kernel_rfl) (by kernel_rfl) (fun _ _ _ h => h) (by rfl) ?_ hHeld ?_; rotate_left; (· (intro wS hSw; (try dsimp only at hSw); go_simp; first | done | with_reducible rfl)); simp only [Act.put, List.setIfInBounds_toArray, List.set_cons_zero, List.set_cons_succ]); (refine take_op (i := 8) (v := ?_) rfl (by kernel_rfl) (by kernel_rfl) (by kernel_rfl) (fun _ _ _ h => h) (by rfl) ?_ hHeld ?_; rotate_left; (· (intro wS hSw; (try dsimp only at hSw); go_simp; first | done | with_reducible rfl)); simp only [Act.put, List.setIfInBounds_toArray, List.set_cons_zero, List.set_cons_succ]); (refine take_op (i := 9) (v := ?_) rfl (by kernel_rfl) (by kernel_rfl) (by kernel_rfl) (fun _ _ _ h => h) (by rfl) ?_ hHeld ?_; rotate_left; (· (intro wS hSw; (try dsimp only at hSw); go_simp; first | done | with_reducible rfl)); simp only [Act.put, List.setIfInBounds_toArray, List.set_cons_zero, List.set_cons_succ])
        (refine call_op (i := 10) rfl (by kernel_rfl) (by rfl) (fun K hK => ?_); go_simp; (go_at_call 11; (with_reducible refine (Hit.out _ _ _ (i9.out.keep q1)).mono ?_); rintro e w6 ⟨A6, c6, rfl, hi6, hb6⟩; replace QX := QX.keep hb6; replace QR := QR.keep hb6; replace Q6 := Q6.keep hb6; replace q1 := below_call q1 hb6 q1.size; replace qk := below_call qk hb6 qk.size); refine hK.out _ _ ⟨QX.cell, Q6.cell⟩ (fun hHeld2 => ?_); clear hK K hHeld; have hHeld := hHeld2; clear hHeld2; (try simp only [Act.put, List.setIfInBounds_toArray, List.set_cons_zero, List.set_cons_succ]))
        (refine call_op (i := 11) rfl (by kernel_rfl) (by rfl) (fun K hK => ?_); go_simp; (go_at_call 35; (with_reducible refine (Hsm.out _ _ qk hi6.holds).mono ?_); rintro e w7 ⟨rfl, hb7⟩; replace QX := QX.keep hb7; replace QR := QR.keep hb7; replace Q6 := Q6.keep hb7; replace q1 := below_call q1 hb7 q1.size; replace qk := below_call qk hb7 qk.size); refine hK.out _ _ ⟨QX.cell, Q6.cell⟩ (fun hHeld2 => ?_); clear hK K hHeld; have hHeld := hHeld2; clear hHeld2; (try simp only [Act.put, List.setIfInBounds_toArray, List.set_cons_zero, List.set_cons_succ]))
        (refine take_op (i := 12) (v := ?_) rfl (by kernel_rfl) (by kernel_rfl) (by kernel_rfl) (fun _ _ _ h => h) (by rfl) ?_ hHeld ?_; rotate_left; (· (intro wS hSw; (try dsimp only at hSw); go_simp; first | done | with_reducible rfl)); simp only [Act.put, List.setIfInBounds_toArray, List.set_cons_zero, List.set_cons_succ]); (refine take_op (i := 13) (v := ?_) rfl (by kernel_rfl) (by kernel_rfl) (by kernel_rfl) (fun _ _ _ h => h) (by rfl) ?_ hHeld ?_; rotate_left; (· (intro wS hSw; (try dsimp only at hSw); go_simp; first | done | with_reducible rfl)); simp only [Act.put, List.setIfInBounds_toArray, List.set_cons_zero, List.set_cons_succ])
        (refine wpAnyH_done (by kernel_rfl) ?_ _)
        have QRc := QR.cell
        have QRf := QR.frozen
        have Q6c := Q6.cell
        clear hHeld
        go_wp2_with fail
        refine bodyPost_ret (v := .tuple #[.agg #[.slice none 0 0, .int .i64 0, .int .i64 0], .bool false]) (by simp [results, Try.results15, go_sem, *] <;> rfl) rfl ?_
        obtain rfl := HRES.out
        exact ⟨none, 0, by first | rfl | simp [azero], IdsAt.nil, ⟨Nat.le_refl _, fun ad h => (by cases h)⟩, by ((repeat' first | with_reducible exact Below.refl _ _ | with_reducible assumption | with_reducible refine Below.alloc ?_ ?_ _ | with_reducible refine Below.setCell ?_ ?_ _ | with_reducible apply Below.drew | with_reducible apply below_drewN | with_reducible refine below_call ?_ (by with_reducible assumption) ?_) <;> (first | omega | (simp; done) | (simp; omega) | (simp at *; omega)))⟩
      · have QX := PX.drew
        have QR := PR.drew
        have Q6 := P6.drew
        have q1 := kb1.drew
        have qk := kk.drew
        (refine wp_region_held_drew (S := (S11 w.heap.size g6 #[.int .i64 k, .int .u64 (n : Int), .string s, .slice (some ⟨eb, eo, none⟩) 3 c] #[.slice A9 G.length c9, .int .i64 (clamp n1 : Int), .int .i64 (clamp n0 : Int)])) (by kernel_rfl) ?_ (fun hHeld => ?_); (· exact ⟨QX.cell, Q6.cell⟩))
        revert hHeld QX QR Q6 q1 qk
        generalize World.drew _ = wd
        intro QX QR Q6 q1 qk hHeld
        (refine take_op (i := 0) (v := ?_) rfl (by kernel_rfl) (by kernel_rfl) (by kernel_rfl) (fun _ _ _ h => h) (by rfl) ?_ hHeld ?_; rotate_left; (· (intro wS hSw; (try dsimp only at hSw); go_simp; first | done | with_reducible rfl)); simp only [Act.put, List.setIfInBounds_toArray, List.set_cons_zero, List.set_cons_succ]); (refine take_op (i := 1) (v := ?_) rfl (by kernel_rfl) (by kernel_rfl) (by kernel_rfl) (fun _ _ _ h => h) (by rfl) ?_ hHeld ?_; rotate_left; (· (intro wS hSw; (try dsimp only at hSw); go_simp; first | done | with_reducible rfl)); simp only [Act.put, List.setIfInBounds_toArray, List.set_cons_zero, List.set_cons_succ]); (refine take_op (i := 2) (v := ?_) rfl (by kernel_rfl) (by kernel_rfl) (by kernel_rfl) (fun _ _ _ h => h) (by rfl) ?_ hHeld ?_; rotate_left; (· (intro wS hSw; (try dsimp only at hSw); go_simp; first | done | with_reducible rfl)); simp only [Act.put, List.setIfInBounds_toArray, List.set_cons_zero, List.set_cons_succ]); (refine take_op (i := 3) (v := ?_) rfl (by kernel_rfl) (by kernel_rfl) (by kernel_rfl) (fun _ _ _ h => h) (by rfl) ?_ hHeld ?_; rotate_left; (· (intro wS hSw; (try dsimp only at hSw); go_simp; first | done | with_reducible rfl)); simp only [Act.put, List.setIfInBounds_toArray, List.set_cons_zero, List.set_cons_succ])
        (refine call_op (i := 4) rfl (by kernel_rfl) (by rfl) (fun K hK => ?_); go_simp; (go_at_call 7; (with_reducible refine (Hck.out _ _ _ (i9.out.keep q1)).mono ?_); rintro e w5 ⟨rfl, hb5⟩; replace QX := QX.keep hb5; replace QR := QR.keep hb5; replace Q6 := Q6.keep hb5; replace q1 := below_call q1 hb5 q1.size; replace qk := below_call qk hb5 qk.size); refine hK.out _ _ ⟨QX.cell, Q6.cell⟩ (fun hHeld2 => ?_); clear hK K hHeld; have hHeld := hHeld2; clear hHeld2; (try simp only [Act.put, List.setIfInBounds_toArray, List.set_cons_zero, List.set_cons_succ]))
        (refine take_op (i := 5) (v := ?_) rfl (by kernel_rfl) (by kernel_rfl) (by kernel_rfl) (fun _ _ _ h => h) (by rfl) ?_ hHeld ?_; rotate_left; (· (intro wS hSw; (try dsimp only at hSw); go_simp; first | done | with_reducible rfl)); simp only [Act.put, List.setIfInBounds_toArray, List.set_cons_zero, List.set_cons_succ]); (refine take_op (i := 6) (v := ?_) rfl (by kernel_rfl) (by kernel_rfl) (by kernel_rfl) (fun _ _ _ h => h) (by rfl) ?_ hHeld ?_; rotate_left; (· (intro wS hSw; (try dsimp only at hSw); go_simp; first | done | with_reducible rfl)); simp only [Act.put, List.setIfInBounds_toArray, List.set_cons_zero, List.set_cons_succ]); (refine take_op (i := 7) (v := ?_) rfl (by kernel_rfl) (by kernel_rfl) (by kernel_rfl) (fun _ _ _ h => h) (by rfl) ?_ hHeld ?_; rotate_left; (· (intro wS hSw; (try dsimp only at hSw); go_simp; first | done | with_reducible rfl)); simp only [Act.put, List.setIfInBounds_toArray, List.set_cons_zero, List.set_cons_succ]); (refine take_op (i := 8) (v := ?_) rfl (by kernel_rfl) (by kernel_rfl) (by kernel_rfl) (fun _ _ _ h => h) (by rfl) ?_ hHeld ?_; rotate_left; (· (intro wS hSw; (try dsimp only at hSw); go_simp; first | done | with_reducible rfl)); simp only [Act.put, List.setIfInBounds_toArray, List.set_cons_zero, List.set_cons_succ]); (refine take_op (i := 9) (v := ?_) rfl (by kernel_rfl) (by kernel_rfl) (by kernel_rfl) (fun _ _ _ h => h) (by rfl) ?_ hHeld ?_; rotate_left; (· (intro wS hSw; (try dsimp only at hSw); go_simp; first | done | with_reducible rfl)); simp only [Act.put, List.setIfInBounds_toArray, List.set_cons_zero, List.set_cons_succ])
        (refine call_op (i := 10) rfl (by kernel_rfl) (by rfl) (fun K hK => ?_); go_simp; (go_at_call 11; (with_reducible refine (Hit.out _ _ _ (i9.out.keep q1)).mono ?_); rintro e w6 ⟨A6, c6, rfl, hi6, hb6⟩; replace QX := QX.keep hb6; replace QR := QR.keep hb6; replace Q6 := Q6.keep hb6; replace q1 := below_call q1 hb6 q1.size; replace qk := below_call qk hb6 qk.size); refine hK.out _ _ ⟨QX.cell, Q6.cell⟩ (fun hHeld2 => ?_); clear hK K hHeld; have hHeld := hHeld2; clear hHeld2; (try simp only [Act.put, List.setIfInBounds_toArray, List.set_cons_zero, List.set_cons_succ]))
        (refine call_op (i := 11) rfl (by kernel_rfl) (by rfl) (fun K hK => ?_); go_simp; (go_at_call 35; (with_reducible refine (Hsm.out _ _ qk hi6.holds).mono ?_); rintro e w7 ⟨rfl, hb7⟩; replace QX := QX.keep hb7; replace QR := QR.keep hb7; replace Q6 := Q6.keep hb7; replace q1 := below_call q1 hb7 q1.size; replace qk := below_call qk hb7 qk.size); refine hK.out _ _ ⟨QX.cell, Q6.cell⟩ (fun hHeld2 => ?_); clear hK K hHeld; have hHeld := hHeld2; clear hHeld2; (try simp only [Act.put, List.setIfInBounds_toArray, List.set_cons_zero, List.set_cons_succ]))
        (refine take_op (i := 12) (v := ?_) rfl (by kernel_rfl) (by kernel_rfl) (by kernel_rfl) (fun _ _ _ h => h) (by rfl) ?_ hHeld ?_; rotate_left; (· (intro wS hSw; (try dsimp only at hSw); go_simp; first | done | with_reducible rfl)); simp only [Act.put, List.setIfInBounds_toArray, List.set_cons_zero, List.set_cons_succ]); (refine take_op (i := 13) (v := ?_) rfl (by kernel_rfl) (by kernel_rfl) (by kernel_rfl) (fun _ _ _ h => h) (by rfl) ?_ hHeld ?_; rotate_left; (· (intro wS hSw; (try dsimp only at hSw); go_simp; first | done | with_reducible rfl)); simp only [Act.put, List.setIfInBounds_toArray, List.set_cons_zero, List.set_cons_succ])
        (refine wpAnyH_done (by kernel_rfl) ?_ _)
        have QRc := QR.cell
        have QRf := QR.frozen
        have Q6c := Q6.cell
        clear hHeld
        go_wp2_with fail
        refine bodyPost_ret (v := .tuple #[.agg #[.slice A9 G.length c9, .int .i64 (clamp n1 : Int), .int .i64 (clamp n0 : Int)], .bool true]) (by simp [results, Try.results15, go_sem, *] <;> rfl) rfl ?_
        obtain rfl := HRES.out
        have hq : ∀ ad, A9 = some ad → ad.block ≠ w.heap.size + 1 := fun ad e => (by have := le9.2 ad e; simp at this; omega)
        exact ⟨A9, c9, rfl, (((i9.out.keep q1).set (p := ⟨w.heap.size + 1, 0, none⟩) hq _).set (p := ⟨w.heap.size + 1, 1, none⟩) hq _).set (p := ⟨w.heap.size + 1, 2, none⟩) hq _, ⟨le9.1, fun ad e => (by have := le9.2 ad e; simp at this; omega)⟩, by ((repeat' first | with_reducible exact Below.refl _ _ | with_reducible assumption | with_reducible refine Below.alloc ?_ ?_ _ | with_reducible refine Below.setCell ?_ ?_ _ | with_reducible apply Below.drew | with_reducible apply below_drewN | with_reducible refine below_call ?_ (by with_reducible assumption) ?_) <;> (first | omega | (simp; done) | (simp; omega) | (simp at *; omega)))⟩
end Go.Proofs.Ytfdfcceleaodaaa
