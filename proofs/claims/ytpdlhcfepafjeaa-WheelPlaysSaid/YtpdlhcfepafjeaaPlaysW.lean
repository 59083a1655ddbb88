/- The walk of the law WheelPlays. -/
import Derived.Test.YtpdlhcfepafjeaaWheelOnce
import Derived.Test.YtpdlhcfepafjeaaActs
import Derived.WalkKit
import Derived.WalkSpells
import Derived.WalkLawsBesides
import Derived.Deep.RegionHeld3
import Derived.Deep.DrawnRows
import Derived.Deep.DeepCutAuto
import Derived.Deep.DeepFit
import Derived.Lib.Hide
import Derived.BigQuiet
import Derived.Deep.QuietTactic
import Derived.Deep.RegionHeld3
import Derived.Deep.CutBlock
namespace Go.Proofs.Ytpdlhcfepafjeaa
open Go.RowKit
set_option linter.unusedVariables false
set_option linter.unusedSimpArgs false
set_option maxRecDepth 20000
attribute [local go_sem ↓] Go.wp_at_zero Go.wp_at_succ
attribute [local go_sem] World.cell?_alloc_some frozen_alloc_some
attribute [local go_sem ↓ high] id_neq_run id_eql_run

/-- The wheel and the document's timers side by side. -/
structure PS (w W : World) (n : Nat) (x : List TimT) (Ax : Option Addr) (mx cx : Nat) : Prop where
  hb : Below w.heap.size w W
  wh : WhAt W (w.heap.size + 1) w.heap.size n x
  ti : TimsAt W Ax mx x
  asc : TAsc x
  ids : Ids1 x
  hc : mx ≤ cx
theorem PS.keep {w W W' : World} {n : Nat} {x : List TimT} {Ax : Option Addr} {mx cx : Nat} (h : PS w W n x Ax mx cx) (hb : Below W.heap.size W W') : PS w W' n x Ax mx cx :=
  ⟨below_call h.hb hb h.hb.size, h.wh.keep hb, h.ti.keep hb, h.asc, h.ids, h.hc⟩
theorem PS.len {w W : World} {n : Nat} {x : List TimT} {Ax : Option Addr} {mx cx : Nat} (h : PS w W n x Ax mx cx) : x.length ≤ n := h.wh.mp.len
/-- What is due under way: what the wheel told, beside the timers. -/
structure DS (w W : World) (n k : Nat) (x : List TimT) (Ax A : Option Addr) (mx : Nat) : Prop where
  hb : Below w.heap.size w W
  wh : WhAt W (w.heap.size + 1) w.heap.size n (x.drop k)
  ti : TimsAt W Ax mx x
  ids : IdsAt W A k ((x.take k).map (·.1))
theorem DS.keep {w W W' : World} {n k : Nat} {x : List TimT} {Ax A : Option Addr} {mx : Nat} (h : DS w W n k x Ax A mx) (hb : Below W.heap.size W W') : DS w W' n k x Ax A mx :=
  ⟨below_call h.hb hb h.hb.size, h.wh.keep hb, h.ti.keep hb, h.ids.keep hb⟩
set_option maxHeartbeats 8000000 in
theorem plays_walk (A : Option Addr) (m c : Nat) (l : List ActP) (w : World) (h : ActsAt w A m l) : Calls Try.prog 5 #[.slice A m c] w (Gives w (.bool true)) := by
  have hnew := fun W => whnew_any W
  have haw := fun W => awake16_any W
  have H := Lib.hid h
  have hm := h.2.1
  have hmm : m ≤ 9223372036854775807 := by unfold maxLen at hm; omega
  clear h hm
  by_cases hbig : 100 < m
  · have hbig' : (100 : Int) < (m : Int) := by omega
    go_enter Try.func5, Try.ntmps5
    go_wp2_with (go_at_call 17; (with_reducible refine (haw _).mono ?_); rintro e w1 ⟨rfl, hb1⟩)
    go_ret
    exact ⟨rfl, hb1⟩
  have hbig' : ¬ (100 : Int) < (m : Int) := by omega
  go_enter Try.func5, Try.ntmps5
  go_wp2_with (go_at_call 18; (with_reducible refine (hnew _).mono ?_); rintro e w1 ⟨rfl, HW, hb1⟩)
  go_loopw [4, 5] (fun s4 s5 wr => ∃ (i n mx cx : Nat) (Ax : Option Addr) (x : List TimT), i ≤ m ∧ s5 = .int .i64 i ∧ s4 = .slice Ax mx cx ∧ n ≤ i ∧ PS w wr n x Ax mx cx) (fun _ s5 _ => m - (intOf s5).toNat)
  case atStart => exact ⟨0, 0, 0, 0, none, [], by omega, rfl, rfl, Nat.le_refl _, ⟨hb1, HW, TimsAt.nil, List.Pairwise.nil, List.Pairwise.nil, Nat.le_refl _⟩⟩
  case round =>
    clear HW hb1 hnew
    obtain ⟨i, n, mx, cx, Ax, x, hi, rfl, rfl, hn, P⟩ := hrel
    by_cases hlt : i < m
    · obtain ⟨d, r, nn, t, b, o, e1, wi, wt, rfl, c0, c1, c2, c3⟩ := (H.out.keep P.hb).at_ hlt
      have i0 : (0 : Int) ≤ (i : Int) := by omega
      have i1 : (i : Int) < (m : Int) := by omega
      clear e1
      have Wi := Lib.hid wi
      have Wt := Lib.hid wt
      clear wi wt
      go_upto_region 9 with fail
      have kk := below_one (w := wr) (.cells #[.int .i64 d, .int .i64 r, .int .i64 nn, .int .i64 t] 41)
      have A6 : Blk (wr.alloc (.cells #[.int .i64 d, .int .i64 r, .int .i64 nn, .int .i64 t] 41)) wr.heap.size 41 #[.int .i64 d, .int .i64 r, .int .i64 nn, .int .i64 t] := Blk.new _ _ _
      replace P := P.keep kk
      clear kk c0 c1 c2 c3
      revert P A6
      generalize World.alloc wr _ = w6
      generalize wr.heap.size = g6
      intro A6 P
      have a6 := A6.cell
      have hfi := fun W (h : TimsAt W Ax mx x) => find16_any Ax mx cx x (r, nn) W h
      have hat := fun W (h : WhAt W (w.heap.size + 1) w.heap.size n x) => what_any _ _ _ x (r, nn) W h Wi.out
      have hcase := findN_cases x (r, nn)
      obtain ⟨kv, hkv⟩ : ∃ kv, kv = findN x (r, nn) := ⟨_, rfl⟩
      obtain ⟨av, hav⟩ : ∃ av, av = atV x (r, nn) := ⟨_, rfl⟩
      obtain ⟨iv, hiv⟩ : ∃ iv, iv = inT x (r, nn) := ⟨_, rfl⟩
      rw [← hkv] at hfi hcase
      rw [← hav, ← hiv] at hat
      simp only at hfi hat
      have hone : ((∃ (k : Nat) (tt : TimT), x[k]? = some tt ∧ kv = (k : Int) ∧ av = tt.2 ∧ iv = true) ∨ (kv = -1 ∧ av = 0 ∧ iv = false)) := by
        rcases hcase with ⟨k, tt, h1, h2, h3⟩ | ⟨h1, h2⟩
        · left
          refine ⟨k, tt, h1, h3, ?_, ?_⟩
          · rw [hav, ← h2, atV_hit P.ids (List.mem_of_getElem? h1)]
          · rw [hiv, inT_iff.2 ⟨tt, List.mem_of_getElem? h1, h2⟩]
        · right
          refine ⟨h2, by rw [hav]; exact atV_miss h1, ?_⟩
          rw [hiv, ← Bool.not_eq_true, inT_iff]
          rintro ⟨u, hu, e⟩
          exact h1 u hu e
      have Hone := Lib.hid hone
      have Hiv := Lib.hid hiv
      clear hkv hav hiv hcase hone
      go_upto_region 11 with (first | (go_at_call 22; (with_reducible refine (hfi _ P.ti).mono ?_); rintro e w7 ⟨rfl, hb7⟩; replace P := P.keep hb7; replace A6 := Blk.keep A6 hb7; clear hb7 a6; have a6 := A6.cell) | (go_at_call 23; (with_reducible refine (hat _ P.wh).mono ?_); rintro e w8 ⟨rfl, hb8⟩; replace P := P.keep hb8; replace A6 := Blk.keep A6 hb8; clear hb8 a6; have a6 := A6.cell))
      clear hfi hat
      go_cut [64] (fun s64 wx => s64 = .bool false ∧ Below w8.heap.size w8 wx)
      case first =>
        rcases Hone.out with ⟨k, ⟨⟨t1, t2⟩, t3⟩, hk, rfl, rfl, rfl⟩ | ⟨rfl, rfl, rfl⟩
        · have hkl : k < mx := by rw [P.ti.1]; exact (List.getElem?_eq_some_iff.1 hk).1
          obtain ⟨r', n', a', bb, oo, e2, _, _, rfl, _, _, cc⟩ := P.ti.at_ hkl
          rw [hk] at e2
          simp only [Option.some.injEq, Prod.mk.injEq] at e2
          obtain ⟨⟨rfl, rfl⟩, rfl⟩ := e2
          have k0 : (0 : Int) ≤ (k : Int) := by omega
          have k1 : (k : Int) < (mx : Int) := by omega
          clear hk
          go_wp2_with fail
          go_meet
          exact ⟨rfl, by ((repeat' first | with_reducible exact Below.refl _ _ | with_reducible assumption | with_reducible refine Below.alloc ?_ ?_ _ | with_reducible refine Below.setCell ?_ ?_ _ | with_reducible apply Below.drew | with_reducible apply below_drewN | with_reducible refine below_call ?_ (by with_reducible assumption) ?_) <;> (first | omega | (simp; done) | (simp; omega) | (simp at *; omega)))⟩
        · go_wp2_with fail
          go_meet
          exact ⟨rfl, by ((repeat' first | with_reducible exact Below.refl _ _ | with_reducible assumption | with_reducible refine Below.alloc ?_ ?_ _ | with_reducible refine Below.setCell ?_ ?_ _ | with_reducible apply Below.drew | with_reducible apply below_drewN | with_reducible refine below_call ?_ (by with_reducible assumption) ?_) <;> (first | omega | (simp; done) | (simp; omega) | (simp at *; omega)))⟩
      case rest =>
        obtain ⟨rfl, hb9⟩ := hcut
        replace P := P.keep hb9
        replace A6 := Blk.keep A6 hb9
        clear a6 hb9
        have a6 := A6.cell
        have hxl := P.len
        have hmx := P.ti.1
        have hxn : x.length ≤ 100 := by omega
        go_upto_block 2 with fail
        go_cut [4] (fun s4 wx => ∃ (n2 mx2 cx2 : Nat) (Ax2 : Option Addr) (x2 : List TimT), s4 = .slice Ax2 mx2 cx2 ∧ n2 ≤ i + 1 ∧ PS w wx n2 x2 Ax2 mx2 cx2)
        case first =>
          by_cases d0 : d = 0
          · subst d0
            have hset := fun W (h : WhAt W (w.heap.size + 1) w.heap.size n x) => whset_any _ _ _ x ((r, nn), t) W h (by unfold maxLen; omega) Wi.out Wt.out
            have hset16 := fun W (h : TimsAt W Ax mx x) => set16_any Ax mx cx x ((r, nn), t) W h (by omega) ⟨Wi.out, Wt.out⟩
            have hasc := setT_asc P.asc ((r, nn), t)
            have hids := setT_ids P.ids ((r, nn), t)
            generalize setT x ((r, nn), t) = x2 at hset hset16 hasc hids
            simp only at hset hset16
            clear Hone Hiv hxl hmx hxn
            have Ha := Lib.hid hasc
            have Hi := Lib.hid hids
            clear hasc hids
            go_wp2_with (first | (go_at_call 19; (with_reducible refine (hset _ P.wh).mono ?_); rintro e w10 ⟨rfl, H10, hg⟩; have hc := P.wh.cells hg; have hb10 := below_turn P.hb hg (Nat.le_refl _) P.hb.size; have ti10 := P.ti.turn hc; have A10 := hc.blk A6; clear a6 hc hg A6; have a6 := A10.cell) | (go_at_call 24; (with_reducible refine (hset16 _ ti10).mono ?_); rintro e w11 ⟨A', m', c', rfl, hmc, ti11, hb11⟩; clear a6 A10))
            go_meet
            exact ⟨n + 1, m', c', A', x2, rfl, by omega, ⟨below_call hb10 hb11 hb10.size, H10.keep hb11, ti11, Ha.out, Hi.out, hmc⟩⟩
          have d0' : (d == 0) = false := by simp [d0]
          by_cases d1 : d = 1
          · subst d1
            have hcan := fun W (h : WhAt W (w.heap.size + 1) w.heap.size n x) => whcancel_any _ _ _ x (r, nn) W h Wi.out
            rw [← Hiv.out] at hcan
            have hout := fun W (h : TimsAt W Ax mx x) => out16_any Ax mx cx x (r, nn) W h (by omega)
            have hasc := outT_asc P.asc (r, nn)
            have hids := outT_ids P.ids (r, nn)
            generalize outT x (r, nn) = x2 at hcan hout hasc hids
            simp only at hcan hout
            have Ha := Lib.hid hasc
            have Hi := Lib.hid hids
            clear hasc hids hxl hmx hxn d0
            rcases Hone.out with ⟨k, tt, _, rfl, rfl, rfl⟩ | ⟨rfl, rfl, rfl⟩
            all_goals
              have k0 : 0 ≤ i := by omega
              clear Hone Hiv
              go_wp2_with (first | (go_at_call 25; (with_reducible refine (hcan _ P.wh).mono ?_); rintro e w10 ⟨rfl, H10, hg⟩; have hc := P.wh.cells hg; have hb10 := below_turn P.hb hg (Nat.le_refl _) P.hb.size; have ti10 := P.ti.turn hc; have A10 := hc.blk A6; clear a6 hc hg A6; have a6 := A10.cell) | (go_at_call 26; (with_reducible refine (hout _ ti10).mono ?_); rintro e w11 ⟨A', m', c', rfl, hmc, ti11, hb11⟩; clear a6 A10))
              go_meet
              exact ⟨n, m', c', A', x2, rfl, by omega, ⟨below_call hb10 hb11 hb10.size, H10.keep hb11, ti11, Ha.out, Hi.out, hmc⟩⟩
          have d1' : (d == 1) = false := by simp [d1]
          by_cases d2 : d = 2
          · subst d2
            have hdue := fun W (h : WhAt W (w.heap.size + 1) w.heap.size n x) => whdue_any _ _ _ x t W h P.asc P.ids (by omega)
            have hdue16 := fun W (h : TimsAt W Ax mx x) => due16_any Ax mx cx x t W h
            have hle := dueN_le x t
            generalize dueN x t = k at hdue hdue16 hle
            have Ha := Lib.hid (show TAsc (x.drop k) from P.asc.sublist (List.drop_sublist k x))
            have Hi := Lib.hid (show Ids1 (x.drop k) from P.ids.sublist (List.drop_sublist k x))
            have Hc := Lib.hid P.hc
            have hk100 : k ≤ 100 := by omega
            clear Hone Hiv hxl hxn d0 d1
            go_upto_region 24 with (first | (go_at_call 21; (with_reducible refine (hdue _ P.wh).mono ?_); rintro e w10 ⟨A', m', c', rfl, I10, H10, hg⟩; have hc := P.wh.cells hg; have hb10 := below_turn P.hb hg (Nat.le_refl _) P.hb.size; have ti10 := P.ti.turn hc; have A10 := hc.blk A6; have hmk : m' = k := (by have := I10.1; rw [List.length_map, List.length_take] at this; omega); subst hmk; have D := (show DS w w10 n m' x Ax A' mx from ⟨hb10, H10, ti10, I10⟩); clear a6 hc hg A6 hb10 H10 I10 hmx; have a6 := A10.cell) | (go_at_call 27; (with_reducible refine (hdue16 _ D.ti).mono ?_); rintro e w11 ⟨rfl, hb11⟩; replace D := D.keep hb11; clear a6 A10 hb11))
            clear P ti10 hdue hdue16
            go_wp2_with fail
            go_loopw [12] (fun s12 wr2 => ∃ j : Nat, j ≤ m' ∧ s12 = .int .i64 j ∧ DS w wr2 n m' x Ax A' mx) (fun s12 _ => m' - (intOf s12).toNat)
            case atStart => exact ⟨0, by omega, rfl, D⟩
            case round =>
              clear D
              obtain ⟨j, hj, rfl, D⟩ := hrel
              by_cases hlk : j < m'
              · obtain ⟨r1, n1, b1, o1, e1, _, _, rfl, p0, p1⟩ := D.ids.at_ hlk
                obtain ⟨r2, n2, t2, b2, o2, e2, _, _, rfl, q0, q1, q2⟩ := D.ti.at_ (i := j) (by rw [D.ti.1]; omega)
                have e3 : (r2, n2) = (r1, n1) := by
                  rw [List.getElem?_map, List.getElem?_take, if_pos hlk, e2] at e1
                  simpa using e1
                simp only [Prod.mk.injEq] at e3
                obtain ⟨rfl, rfl⟩ := e3
                have j0 : (0 : Int) ≤ (j : Int) := by omega
                have j1 : (j : Int) < (m' : Int) := by omega
                have j2 : (j : Int) < (mx : Int) := by have := D.ti.1; omega
                clear e1 e2 q2
                go_upto_region 29 with fail
                replace D := D.keep (Below.refl _ _).drew
                (refine wp_region_held_drew (S := (S4 ⟨b1, o1 + j * 2, none⟩ ⟨b1, o1 + j * 2 + 1, none⟩ ⟨b2, o2 + j * 3, none⟩ ⟨b2, o2 + j * 3 + 1, none⟩ (.int .i64 r2) (.int .i64 n2) (.int .i64 r2) (.int .i64 n2))) (by kernel_rfl) ?_ (fun hHeld => ?_); (· exact S4.drew ⟨p0, p1, q0, q1⟩))
                (refine take_op (i := 0) (v := ?_) rfl (by kernel_rfl) (by kernel_rfl) (by kernel_rfl) (fun _ _ _ h => h) (by rfl) ?_ hHeld ?_; rotate_left; (· (intro wS hSw; (try dsimp only at hSw); go_simp; first | done | with_reducible rfl)); simp only [Act.put, List.setIfInBounds_toArray, List.set_cons_zero, List.set_cons_succ]); (refine take_op (i := 1) (v := ?_) rfl (by kernel_rfl) (by kernel_rfl) (by kernel_rfl) (fun _ _ _ h => h) (by rfl) ?_ hHeld ?_; rotate_left; (· (intro wS hSw; (try dsimp only at hSw); go_simp; first | done | with_reducible rfl)); simp only [Act.put, List.setIfInBounds_toArray, List.set_cons_zero, List.set_cons_succ]); (refine take_op (i := 2) (v := ?_) rfl (by kernel_rfl) (by kernel_rfl) (by kernel_rfl) (fun _ _ _ h => h) (by rfl) ?_ hHeld ?_; rotate_left; (· (intro wS hSw; (try dsimp only at hSw); go_simp; first | done | with_reducible rfl)); simp only [Act.put, List.setIfInBounds_toArray, List.set_cons_zero, List.set_cons_succ]); (refine take_op (i := 3) (v := ?_) rfl (by kernel_rfl) (by kernel_rfl) (by kernel_rfl) (fun _ _ _ h => h) (by rfl) ?_ hHeld ?_; rotate_left; (· (intro wS hSw; (try dsimp only at hSw); go_simp; first | done | with_reducible rfl)); simp only [Act.put, List.setIfInBounds_toArray, List.set_cons_zero, List.set_cons_succ]); (refine take_op (i := 4) (v := ?_) rfl (by kernel_rfl) (by kernel_rfl) (by kernel_rfl) (fun _ _ _ h => h) (by rfl) ?_ hHeld ?_; rotate_left; (· (intro wS hSw; (try dsimp only at hSw); go_simp; first | done | with_reducible rfl)); simp only [Act.put, List.setIfInBounds_toArray, List.set_cons_zero, List.set_cons_succ]); (refine take_op (i := 5) (v := ?_) rfl (by kernel_rfl) (by kernel_rfl) (by kernel_rfl) (fun _ _ _ h => h) (by rfl) ?_ hHeld ?_; rotate_left; (· (intro wS hSw; (try dsimp only at hSw); go_simp; first | done | with_reducible rfl)); simp only [Act.put, List.setIfInBounds_toArray, List.set_cons_zero, List.set_cons_succ]); (refine take_op (i := 6) (v := ?_) rfl (by kernel_rfl) (by kernel_rfl) (by kernel_rfl) (fun _ _ _ h => h) (by rfl) ?_ hHeld ?_; rotate_left; (· (intro wS hSw; (try dsimp only at hSw); go_simp; first | done | with_reducible rfl)); simp only [Act.put, List.setIfInBounds_toArray, List.set_cons_zero, List.set_cons_succ]); (refine take_op (i := 7) (v := ?_) rfl (by kernel_rfl) (by kernel_rfl) (by kernel_rfl) (fun _ _ _ h => h) (by rfl) ?_ hHeld ?_; rotate_left; (· (intro wS hSw; (try dsimp only at hSw); go_simp; first | done | with_reducible rfl)); simp only [Act.put, List.setIfInBounds_toArray, List.set_cons_zero, List.set_cons_succ]); (refine take_op (i := 8) (v := ?_) rfl (by kernel_rfl) (by kernel_rfl) (by kernel_rfl) (fun _ _ _ h => h) (by rfl) ?_ hHeld ?_; rotate_left; (· (intro wS hSw; (try dsimp only at hSw); go_simp; first | done | with_reducible rfl)); simp only [Act.put, List.setIfInBounds_toArray, List.set_cons_zero, List.set_cons_succ]); (refine take_op (i := 9) (v := ?_) rfl (by kernel_rfl) (by kernel_rfl) (by kernel_rfl) (fun _ _ _ h => h) (by rfl) ?_ hHeld ?_; rotate_left; (· (intro wS hSw; (try dsimp only at hSw); go_simp; first | done | with_reducible rfl)); simp only [Act.put, List.setIfInBounds_toArray, List.set_cons_zero, List.set_cons_succ])
                (refine wpAnyH_done (by kernel_rfl) ?_ _)
                clear p0 p1 q0 q1
                go_wp2_with fail
                go_roundw
                case rel => exact ⟨j + 1, by omega, by go_num, D⟩
                case measure => simp [intOf]; omega
              · obtain rfl : j = m' := by omega
                have nj : ¬ (j : Int) < (j : Int) := by omega
                have k1 : (j : Int) ≤ (mx : Int) := by have := D.ti.1; omega
                have hd := D.ti.drop (c := cx) (k := j) (by omega) Hc.out
                obtain ⟨A2, hA2⟩ : ∃ A2, (if cx = j then Ax else Ax.map (·.add (j * 3))) = A2 := ⟨_, rfl⟩
                rw [hA2] at hd
                go_wp2_with fail
                go_meet
                exact ⟨n, mx - j, cx - j, A2, x.drop j, by rw [← hA2], by omega, ⟨D.hb, D.wh, hd, Ha.out, Hi.out, by have := Hc.out; omega⟩⟩
          · have d2' : (d == 2) = false := by simp [d2]
            clear Hone Hiv hxl hmx hxn d0 d1 d2
            go_wp2_with fail
            go_meet
            exact ⟨n, mx, cx, Ax, x, rfl, by omega, P⟩
        case rest =>
          clear P A6 a6 hxl hmx hxn Hone Hiv
          obtain ⟨n2, mx2, cx2, Ax2, x2, rfl, hn2, P⟩ := hcut
          have hnx := fun W (h : WhAt W (w.heap.size + 1) w.heap.size n2 x2) => whnext_any _ _ _ x2 W h
          have hlen := fun W (h : WhAt W (w.heap.size + 1) w.heap.size n2 x2) => whlen_any _ _ _ x2 W h
          have Hn := Lib.hid hn2
          have Hi := Lib.hid hi
          clear hn2 hi hn
          go_upto_region 33 with (go_at_call 28; (with_reducible refine (hnx _ P.wh).mono ?_); rintro e w12 ⟨lst, sm, rfl, HN, hb12⟩; replace P := P.keep hb12)
          have hxm := P.ti.1
          rcases HN.out with ⟨rfl, rfl, rfl⟩ | ⟨rfl, ⟨t1, ht1, ht2⟩, hle1⟩
          · clear HN hnx hb12
            obtain rfl : mx2 = 0 := hxm
            go_wp2_with (go_at_call 20; (with_reducible refine (hlen _ P.wh).mono ?_); rintro e w13 ⟨rfl, hb13⟩; replace P := P.keep hb13)
            go_roundw
            case rel => exact ⟨i + 1, n2, 0, cx2, Ax2, [], by have := Hi.out; omega, by go_num, rfl, Hn.out, P⟩
            case measure => simp [intOf]; omega
          · have hpos : 0 < mx2 := by rw [hxm]; exact List.length_pos_of_mem ht1
            obtain ⟨r2, nn2, a2, b2, o2, e2, _, _, rfl, _, _, q2⟩ := P.ti.at_ hpos
            have hat2 : a2 = lst := by
              have hh := P.asc
              cases x2 with
              | nil => cases ht1
              | cons u rest =>
                simp at e2
                subst e2
                have h1 := hle1 _ (by simp : ((r2, nn2), a2) ∈ ((r2, nn2), a2) :: rest)
                rcases List.mem_cons.1 ht1 with rfl | h2
                · exact ht2
                · have h3 := (List.pairwise_cons.1 hh).1 _ h2
                  unfold tLt at h3
                  simp only at h1 h3
                  omega
            subst hat2
            simp only [Nat.zero_mul, Nat.add_zero, Nat.zero_add] at q2
            have m0 : (0 : Int) < (mx2 : Int) := by omega
            have hlen2 : ∀ W, WhAt W (w.heap.size + 1) w.heap.size n2 x2 → Calls Try.prog 20 #[.pointer (some ⟨w.heap.size + 1, 0, none⟩)] W (Gives W (.int .i64 (mx2 : Nat))) := fun W h => by
              have := hlen W h
              rwa [← hxm] at this
            clear hlen
            clear HN hnx hb12 ht1 ht2 hle1 e2 hxm
            go_wp2_with (go_at_call 20; (with_reducible refine (hlen2 _ P.wh).mono ?_); rintro e w13 ⟨rfl, hb13⟩; replace P := P.keep hb13; replace q2 := cell_keep hb13 q2)
            go_roundw
            case rel => exact ⟨i + 1, n2, mx2, cx2, _, x2, by have := Hi.out; omega, by go_num, rfl, Hn.out, P⟩
            case measure => simp [intOf]; omega
    · obtain rfl : i = m := by omega
      have ni : ¬ (i : Int) < (i : Int) := by omega
      have hbb := P.hb
      clear P
      go_wp2_with (go_at_call 17; (with_reducible refine (haw _).mono ?_); rintro e w2 ⟨rfl, hb2⟩)
      go_ret
      exact ⟨rfl, below_call hbb hb2 hbb.size⟩
end Go.Proofs.Ytpdlhcfepafjeaa
