/- The walk of the law WheelAll. -/
import Derived.Test.YtpdlhcfepafjeaaWheelOnce
import Derived.WalkKit
import Derived.WalkSpells
import Derived.WalkLawsBesides
import Derived.Deep.RegionHeld3
import Derived.Deep.DrawnRows
import Derived.Deep.DeepCutAuto
import Derived.Deep.DeepFit
import Derived.Lib.Hide
import Derived.BigQuiet
import Derived.Deep.QuietTactic
import Derived.Deep.RegionHeld3
import Derived.Deep.CutBlock
namespace Go.Proofs.Ytpdlhcfepafjeaa
open Go.RowKit
set_option linter.unusedVariables false
set_option linter.unusedSimpArgs false
set_option maxRecDepth 20000
attribute [local go_sem ↓] Go.wp_at_zero Go.wp_at_succ
attribute [local go_sem] World.cell?_alloc_some frozen_alloc_some
attribute [local go_sem ↓ high] id_neq_run id_eql_run

/-- The timers of ids that are set one behind the other: each at its last place. -/
structure AllT (l : List IdP) (i : Nat) (x : List TimT) : Prop where
  asc : TAsc x
  ids : Ids1 x
  at_ : ∀ t ∈ x, ∃ k : Nat, k < i ∧ l[k]? = some t.1 ∧ t.2 = (k : Int) ∧ ∀ k', k < k' → k' < i → l[k']? ≠ some t.1
theorem AllT.nil (l : List IdP) : AllT l 0 [] := ⟨List.Pairwise.nil, List.Pairwise.nil, fun t h => by cases h⟩
theorem AllT.step {l : List IdP} {i : Nat} {x : List TimT} (h : AllT l i x) {q : IdP} (hq : l[i]? = some q) : AllT l (i + 1) (setT x (q, (i : Int))) := by
  refine ⟨setT_asc h.asc _, setT_ids h.ids _, fun t ht => ?_⟩
  rcases mem_insT.1 ht with rfl | ht
  · exact ⟨i, by omega, hq, rfl, fun k' h1 h2 => by omega⟩
  · obtain ⟨h1, h2⟩ := mem_outT.1 ht
    obtain ⟨k, k1, k2, k3, k4⟩ := h.at_ t h1
    refine ⟨k, by omega, k2, k3, fun k' g1 g2 => ?_⟩
    by_cases e : k' = i
    · subst e
      rw [hq]
      intro e2
      injection e2 with e2
      exact h2 e2.symm
    · exact k4 k' g1 (by omega)
theorem AllT.len {l : List IdP} {i : Nat} {x : List TimT} (h : AllT l i x) : ∀ t ∈ x, 0 ≤ t.2 ∧ t.2 < (i : Int) := fun t ht => by
  obtain ⟨k, k1, _, k3, _⟩ := h.at_ t ht
  omega
theorem AllT.rises {l : List IdP} {i : Nat} {x : List TimT} (h : AllT l i x) : x.Pairwise fun a b => a.2 < b.2 := by
  have hp : x.Pairwise fun a b => tLt a b ∧ a.1 ≠ b.1 := List.Pairwise.and h.asc h.ids
  refine List.Pairwise.imp_of_mem (fun {a b} ha hb hab => ?_) hp
  rcases hab.1 with h1 | h1
  · exact h1
  · obtain ⟨k, _, k2, k3, _⟩ := h.at_ a ha
    obtain ⟨j, _, j2, j3, _⟩ := h.at_ b hb
    have e : k = j := by omega
    subst e
    rw [k2] at j2
    injection j2 with j2
    exact absurd j2 hab.2
/-- The tick told last. -/
def lastOf (x : List TimT) (t : Nat) : Int := if t = 0 then -1 else match x[t - 1]? with | some u => u.2 | none => -1
theorem lastOf_next {x : List TimT} {t : Nat} {u : TimT} (h : x[t]? = some u) : lastOf x (t + 1) = u.2 := by simp [lastOf, h]
theorem AllT.last {l : List IdP} {i : Nat} {x : List TimT} (h : AllT l i x) {t : Nat} {u : TimT} (hu : x[t]? = some u) : lastOf x t < u.2 := by
  unfold lastOf
  split
  · have := (h.len u (List.mem_of_getElem? hu)).1; omega
  · obtain ⟨h1, h2⟩ := List.getElem?_eq_some_iff.1 hu
    rw [List.getElem?_eq_getElem (by omega)]
    have := List.pairwise_iff_getElem.1 h.rises (t - 1) t (by omega) h1 (by omega)
    rw [h2] at this
    exact this
/-- The last place of an id among the first. -/
def lastIx (l : List IdP) (q : IdP) : Nat → Int
  | 0 => -1
  | i + 1 => if l[i]? = some q then (i : Int) else lastIx l q i
theorem lastIx_at {l : List IdP} {q : IdP} {k : Nat} (hk : l[k]? = some q) : ∀ {i : Nat}, k < i → (∀ k', k < k' → k' < i → l[k']? ≠ some q) → lastIx l q i = (k : Int)
  | 0, h, _ => by omega
  | i + 1, h, hn => by
    by_cases e : k = i
    · subst e; simp [lastIx, hk]
    · have := hn i (by omega) (by omega)
      simp only [lastIx, this, if_false]
      exact lastIx_at hk (by omega) fun k' h1 h2 => hn k' h1 (by omega)
theorem AllT.lastIx {l : List IdP} {i : Nat} {x : List TimT} (h : AllT l i x) {t : TimT} (ht : t ∈ x) : lastIx l t.1 i = t.2 := by
  obtain ⟨k, k1, k2, k3, k4⟩ := h.at_ t ht
  rw [lastIx_at k2 k1 k4, k3]
theorem dueN_take {x : List TimT} {now : Int} {j : Nat} (hj : j < dueN x now) : ∃ t, x[j]? = some t ∧ t.2 ≤ now := by
  rcases dueN_step (k := j) (Nat.le_of_lt hj) with ⟨t, h1, h2, _⟩ | ⟨h1, _⟩
  · exact ⟨t, h1, h2⟩
  · omega
theorem dueN_rest {x : List TimT} (h : x.Pairwise fun a b => a.2 < b.2) (now : Int) : ∀ t ∈ x.drop (dueN x now), now < t.2 := by
  intro t ht
  obtain ⟨i, hi⟩ := List.getElem?_of_mem ht
  rw [List.getElem?_drop] at hi
  rcases dueN_step (x := x) (now := now) (Nat.le_refl _) with ⟨_, _, _, h3⟩ | ⟨_, h3⟩
  · omega
  · by_cases e : i = 0
    · subst e
      have := h3 t (by simpa using hi)
      omega
    · obtain ⟨h4, h5⟩ := List.getElem?_eq_some_iff.1 hi
      have h6 := h3 x[dueN x now] (List.getElem?_eq_getElem (by omega))
      have h7 := List.pairwise_iff_getElem.1 h (dueN x now) (dueN x now + i) (by omega) h4 (by omega)
      rw [h5] at h7
      omega

/-- The wheel under way. -/
structure WA (w W : World) (n : Nat) (y : List TimT) : Prop where
  hb : Below w.heap.size w W
  wh : WhAt W (w.heap.size + 1) w.heap.size n y
theorem WA.keep {w W W' : World} {n : Nat} {y : List TimT} (h : WA w W n y) (hb : Below W.heap.size W W') : WA w W' n y := ⟨below_call h.hb hb h.hb.size, h.wh.keep hb⟩
set_option maxHeartbeats 8000000 in
theorem all_walk (A : Option Addr) (m c : Nat) (l : List IdP) (s : Int) (w : World) (h : IdsAt w A m l) (hs : (Lit.int .u8 s).wf = true) : Calls Try.prog 4 #[.slice A m c, .int .u8 s] w (Gives w (.bool true)) := by
  have hnew := fun W => whnew_any W
  have haw := fun W => awake16_any W
  have H := Lib.hid h
  have hm := h.2.1
  have hmm : m ≤ 9223372036854775807 := by unfold maxLen at hm; omega
  clear h hm
  by_cases hbig : 60 < m
  · have hbig' : (60 : Int) < (m : Int) := by omega
    go_enter Try.func4, Try.ntmps4
    go_wp2_with (go_at_call 17; (with_reducible refine (haw _).mono ?_); rintro e w1 ⟨rfl, hb1⟩)
    go_ret
    exact ⟨rfl, hb1⟩
  have hbig' : ¬ (60 : Int) < (m : Int) := by omega
  go_enter Try.func4, Try.ntmps4
  go_wp2_with (go_at_call 18; (with_reducible refine (hnew _).mono ?_); rintro e w1 ⟨rfl, HW, hb1⟩)
  go_loopw [6] (fun s6 wr => ∃ (i : Nat) (x : List TimT), i ≤ m ∧ s6 = .int .i64 i ∧ WA w wr i x ∧ AllT l i x) (fun s6 _ => m - (intOf s6).toNat)
  case atStart => exact ⟨0, [], by omega, rfl, ⟨hb1, HW⟩, AllT.nil l⟩
  case round =>
    clear HW hb1 hnew
    obtain ⟨i, x, hi, rfl, P, T⟩ := hrel
    by_cases hlt : i < m
    · obtain ⟨r, n, b, o, e1, wr1, wn1, rfl, c0, c1⟩ := (H.out.keep P.hb).at_ hlt
      have i0 : (0 : Int) ≤ (i : Int) := by omega
      have i1 : (i : Int) < (m : Int) := by omega
      have hset := fun W (h : WhAt W (w.heap.size + 1) w.heap.size i x) => whset_any _ _ _ x ((r, n), (i : Int)) W h (by unfold maxLen; omega) ⟨wr1, wn1⟩ (by simp [Lit.wf, IntKind.min, IntKind.max, IntKind.signed, IntKind.bits]; omega)
      simp only at hset
      have T2 := Lib.hid (T.step e1)
      generalize setT x ((r, n), (i : Int)) = x2 at hset T2
      clear e1 wr1 wn1 T
      go_wp2_with (go_at_call 19; (with_reducible refine (hset _ P.wh).mono ?_); rintro e w10 ⟨rfl, H10, hg⟩; have hb10 := below_turn P.hb hg (Nat.le_refl _) P.hb.size; clear hg c0 c1 P)
      go_roundw
      case rel => exact ⟨i + 1, x2, by omega, by go_num, ⟨hb10, H10⟩, T2.out⟩
      case measure => simp [intOf]; omega
    · obtain rfl : i = m := by omega
      have ni : ¬ (i : Int) < (i : Int) := by omega
      have hlen := fun W (h : WhAt W (w.heap.size + 1) w.heap.size i x) => whlen_any _ _ _ x W h
      have hxl : x.length ≤ i := P.wh.mp.len
      have HT := Lib.hid T
      clear T
      go_wp2_with (go_at_call 20; (with_reducible refine (hlen _ P.wh).mono ?_); rintro e w2 ⟨rfl, hb2⟩; replace P := P.keep hb2)
      clear hb2 hlen
      have hi60 : i ≤ 60 := by omega
      have hi60' : (i : Int) ≤ 60 := by omega
      obtain ⟨s0, s1⟩ := wf_u8 hs
      obtain ⟨sn, rfl⟩ : ∃ sn : Nat, s = (sn : Int) := ⟨s.toNat, by omega⟩
      have hs8 : ((sn : Int)).tmod 8 = ((sn % 8 : Nat) : Int) := by rw [Int.tmod_eq_emod_of_nonneg (by omega)]; omega
      obtain ⟨q8, hq8⟩ : ∃ q8 : Nat, q8 = sn % 8 := ⟨_, rfl⟩
      rw [← hq8] at hs8
      have hq7 : q8 ≤ 7 := by omega
      clear hq8
      go_loopw [8, 9, 10] (fun s8 s9 s10 wr => ∃ (told now : Nat), told ≤ x.length ∧ s8 = .int .i64 told ∧ s9 = .int .i64 (lastOf x told) ∧ s10 = .int .i64 now ∧ now ≤ i + 16 ∧ Hid (∀ t ∈ x.drop told, (now : Int) ≤ t.2 + 8) ∧ WA w wr i (x.drop told)) (fun _ _ s10 _ => i + 8 - (intOf s10).toNat)
      case atStart => exact ⟨0, 0, by omega, rfl, rfl, rfl, by omega, Lib.hid (fun t ht => by have := (HT.out.len t (by simpa using ht)).1; omega), P⟩
      case round =>
        clear P
        obtain ⟨told, now, htold, rfl, rfl, rfl, hnow, HN, P⟩ := hrel
        obtain ⟨last, hlast⟩ : ∃ last, last = lastOf x told := ⟨_, rfl⟩
        rw [← hlast]
        by_cases hnl : now < i + 8
        · have n0 : (now : Int) < (i : Int) + 8 := by omega
          have hyr : (x.drop told).Pairwise fun a b => a.2 < b.2 := HT.out.rises.sublist (List.drop_sublist _ _)
          have hdue := fun W (h : WhAt W (w.heap.size + 1) w.heap.size i (x.drop told)) => whdue_any _ _ _ (x.drop told) now W h (HT.out.asc.sublist (List.drop_sublist _ _)) (HT.out.ids.sublist (List.drop_sublist _ _)) (by rw [List.length_drop]; omega)
          have hk1 : ∀ j, j < dueN (x.drop told) now → ∃ t, x[told + j]? = some t ∧ t.2 ≤ now := fun j hj => by
            obtain ⟨t, h1, h2⟩ := dueN_take hj
            rw [List.getElem?_drop] at h1
            exact ⟨t, h1, h2⟩
          have hk2 := dueN_rest hyr now
          have hk3 := dueN_le (x.drop told) now
          rw [List.length_drop] at hk3
          rw [List.drop_drop] at hk2
          simp only [List.drop_drop] at hdue
          generalize dueN (x.drop told) now = k at hdue hk1 hk2 hk3
          have HK1 := Lib.hid hk1
          have HK2 := Lib.hid hk2
          have HL := Lib.hid hlast
          have Hx := Lib.hid hxl
          clear hk1 hk2 hyr hlast hxl
          go_wp2_with (go_at_call 21; (with_reducible refine (hdue _ P.wh).mono ?_); rintro e w10 ⟨A', m', c', rfl, I10, H10, hg⟩; have hb10 := below_turn P.hb hg (Nat.le_refl _) P.hb.size; have hmk : m' = k := (by have := I10.1; rw [List.length_map, List.length_take, List.length_drop] at this; omega); subst hmk; have D := (show WA w w10 i (x.drop (told + m')) from ⟨hb10, H10⟩); have I := I10; clear hg hb10 H10 I10)
          clear P hdue
          have hx60 : told + m' ≤ 60 := by have := Hx.out; omega
          go_loopw [8, 9, 12] (fun s8 s9 s12 wr2 => ∃ j : Nat, j ≤ m' ∧ s8 = .int .i64 ((told + j : Nat) : Int) ∧ s9 = .int .i64 (lastOf x (told + j)) ∧ s12 = .int .i64 j ∧ WA w wr2 i (x.drop (told + m')) ∧ IdsAt wr2 A' m' (((x.drop told).take m').map (·.1))) (fun _ _ s12 _ => m' - (intOf s12).toNat)
          case atStart => exact ⟨0, by omega, rfl, by rw [HL.out]; rfl, rfl, D, I⟩
          case round =>
            clear D I
            obtain ⟨j, hj, rfl, rfl, rfl, D, I⟩ := hrel
            obtain ⟨last2, hlast2⟩ : ∃ last2, last2 = lastOf x (told + j) := ⟨_, rfl⟩
            rw [← hlast2]
            have HL2 := Lib.hid hlast2
            clear hlast2
            by_cases hlk : j < m'
            · obtain ⟨r2, n2, b2, o2, e2, _, _, hA2, _, _⟩ := I.at_ hlk
              obtain ⟨t, ht, htn⟩ := HK1.out j hlk
              have e3 : t.1 = (r2, n2) := by
                rw [List.getElem?_map, List.getElem?_take, if_pos hlk, List.getElem?_drop, ht] at e2
                simpa using e2
              have hat : lastIx l (r2, n2) i = t.2 := by rw [← e3]; exact HT.out.lastIx (List.mem_of_getElem? ht)
              have hgt : last2 < t.2 := by rw [HL2.out]; exact HT.out.last ht
              have hnx := lastOf_next ht
              have HE := Lib.hid (show lastIx l (r2, n2) i = t.2 ∧ last2 < t.2 ∧ lastOf x (told + j + 1) = t.2 ∧ t.2 ≤ now from ⟨hat, hgt, hnx, htn⟩)
              have HQ := Lib.hid e2
              subst hA2
              clear ht htn e2 e3 hat hgt hnx
              have j0 : (0 : Int) ≤ (j : Int) := by omega
              have j1 : (j : Int) < (m' : Int) := by omega
              go_wp2_with fail
              go_loopw [13, 14] (fun s13 s14 wr3 => ∃ i3 : Nat, i3 ≤ i ∧ s13 = .int .i64 (lastIx l (r2, n2) i3) ∧ s14 = .int .i64 i3 ∧ WA w wr3 i (x.drop (told + m')) ∧ IdsAt wr3 (some ⟨b2, o2, none⟩) m' (((x.drop told).take m').map (·.1))) (fun _ s14 _ => i - (intOf s14).toNat)
              case atStart => exact ⟨0, by omega, rfl, rfl, D, I⟩
              case round =>
                clear D I
                obtain ⟨i3, hi3, rfl, rfl, D, I⟩ := hrel
                obtain ⟨la, hla⟩ : ∃ la, la = lastIx l (r2, n2) i3 := ⟨_, rfl⟩
                rw [← hla]
                have HLA := Lib.hid hla
                clear hla
                by_cases hl3 : i3 < i
                · obtain ⟨r1, n1, b1, o1, e1, _, _, hA1, p0, p1⟩ := (H.out.keep D.hb).at_ hl3
                  obtain ⟨r2', n2', b2', o2', e2', _, _, hA2', q0, q1⟩ := I.at_ hlk
                  rw [HQ.out] at e2'
                  simp only [Option.some.injEq, Prod.mk.injEq, Addr.mk.injEq, and_true] at e2' hA2'
                  obtain ⟨rfl, rfl⟩ := e2'
                  obtain ⟨rfl, rfl⟩ := hA2'
                  subst hA1
                  have k0 : (0 : Int) ≤ (i3 : Int) := by omega
                  have k1 : (i3 : Int) < (i : Int) := by omega
                  by_cases he : r1 = r2 ∧ n1 = n2
                  · obtain ⟨rfl, rfl⟩ := he
                    have hst : lastIx l (r1, n1) (i3 + 1) = (i3 : Int) := by simp [lastIx, e1]
                    have HS := Lib.hid hst
                    clear hst e1
                    go_upto_region 21 with fail
                    replace D := D.keep (Below.refl _ _).drew
                    replace I := I.keep (Below.refl _ _).drew
                    (refine wp_region_held_drew (S := (S4 ⟨b1, o1 + i3 * 2, none⟩ ⟨b1, o1 + i3 * 2 + 1, none⟩ ⟨b2, o2 + j * 2, none⟩ ⟨b2, o2 + j * 2 + 1, none⟩ (.int .i64 r1) (.int .i64 n1) (.int .i64 r1) (.int .i64 n1))) (by kernel_rfl) ?_ (fun hHeld => ?_); (· exact S4.drew ⟨p0, p1, q0, q1⟩))
                    (refine take_op (i := 0) (v := ?_) rfl (by kernel_rfl) (by kernel_rfl) (by kernel_rfl) (fun _ _ _ h => h) (by rfl) ?_ hHeld ?_; rotate_left; (· (intro wS hSw; (try dsimp only at hSw); go_simp; first | done | with_reducible rfl)); simp only [Act.put, List.setIfInBounds_toArray, List.set_cons_zero, List.set_cons_succ]); (refine take_op (i := 1) (v := ?_) rfl (by kernel_rfl) (by kernel_rfl) (by kernel_rfl) (fun _ _ _ h => h) (by rfl) ?_ hHeld ?_; rotate_left; (· (intro wS hSw; (try dsimp only at hSw); go_simp; first | done | with_reducible rfl)); simp only [Act.put, List.setIfInBounds_toArray, List.set_cons_zero, List.set_cons_succ]); (refine take_op (i := 2) (v := ?_) rfl (by kernel_rfl) (by kernel_rfl) (by kernel_rfl) (fun _ _ _ h => h) (by rfl) ?_ hHeld ?_; rotate_left; (· (intro wS hSw; (try dsimp only at hSw); go_simp; first | done | with_reducible rfl)); simp only [Act.put, List.setIfInBounds_toArray, List.set_cons_zero, List.set_cons_succ]); (refine take_op (i := 3) (v := ?_) rfl (by kernel_rfl) (by kernel_rfl) (by kernel_rfl) (fun _ _ _ h => h) (by rfl) ?_ hHeld ?_; rotate_left; (· (intro wS hSw; (try dsimp only at hSw); go_simp; first | done | with_reducible rfl)); simp only [Act.put, List.setIfInBounds_toArray, List.set_cons_zero, List.set_cons_succ]); (refine take_op (i := 4) (v := ?_) rfl (by kernel_rfl) (by kernel_rfl) (by kernel_rfl) (fun _ _ _ h => h) (by rfl) ?_ hHeld ?_; rotate_left; (· (intro wS hSw; (try dsimp only at hSw); go_simp; first | done | with_reducible rfl)); simp only [Act.put, List.setIfInBounds_toArray, List.set_cons_zero, List.set_cons_succ]); (refine take_op (i := 5) (v := ?_) rfl (by kernel_rfl) (by kernel_rfl) (by kernel_rfl) (fun _ _ _ h => h) (by rfl) ?_ hHeld ?_; rotate_left; (· (intro wS hSw; (try dsimp only at hSw); go_simp; first | done | with_reducible rfl)); simp only [Act.put, List.setIfInBounds_toArray, List.set_cons_zero, List.set_cons_succ]); (refine take_op (i := 6) (v := ?_) rfl (by kernel_rfl) (by kernel_rfl) (by kernel_rfl) (fun _ _ _ h => h) (by rfl) ?_ hHeld ?_; rotate_left; (· (intro wS hSw; (try dsimp only at hSw); go_simp; first | done | with_reducible rfl)); simp only [Act.put, List.setIfInBounds_toArray, List.set_cons_zero, List.set_cons_succ]); (refine take_op (i := 7) (v := ?_) rfl (by kernel_rfl) (by kernel_rfl) (by kernel_rfl) (fun _ _ _ h => h) (by rfl) ?_ hHeld ?_; rotate_left; (· (intro wS hSw; (try dsimp only at hSw); go_simp; first | done | with_reducible rfl)); simp only [Act.put, List.setIfInBounds_toArray, List.set_cons_zero, List.set_cons_succ]); (refine take_op (i := 8) (v := ?_) rfl (by kernel_rfl) (by kernel_rfl) (by kernel_rfl) (fun _ _ _ h => h) (by rfl) ?_ hHeld ?_; rotate_left; (· (intro wS hSw; (try dsimp only at hSw); go_simp; first | done | with_reducible rfl)); simp only [Act.put, List.setIfInBounds_toArray, List.set_cons_zero, List.set_cons_succ])
                    (refine wpAnyH_done (by kernel_rfl) ?_ _)
                    clear p0 p1 q0 q1
                    go_wp2_with fail
                    go_roundw
                    case rel => exact ⟨i3 + 1, by omega, by rw [HS.out], by go_num, D, I⟩
                    case measure => simp [intOf]; omega
                  · have hne : (r1 == r2 && n1 == n2) = false := by simpa using he
                    have hst : lastIx l (r2, n2) (i3 + 1) = la := by
                      rw [HLA.out]
                      simp only [lastIx, e1]
                      rw [if_neg (by intro e; injection e with e; injection e with e4 e5; exact he ⟨e4, e5⟩)]
                    have HS := Lib.hid hst
                    clear hst e1 he
                    go_upto_region 21 with fail
                    replace D := D.keep (Below.refl _ _).drew
                    replace I := I.keep (Below.refl _ _).drew
                    (refine wp_region_held_drew (S := (S4 ⟨b1, o1 + i3 * 2, none⟩ ⟨b1, o1 + i3 * 2 + 1, none⟩ ⟨b2, o2 + j * 2, none⟩ ⟨b2, o2 + j * 2 + 1, none⟩ (.int .i64 r1) (.int .i64 n1) (.int .i64 r2) (.int .i64 n2))) (by kernel_rfl) ?_ (fun hHeld => ?_); (· exact S4.drew ⟨p0, p1, q0, q1⟩))
                    (refine take_op (i := 0) (v := ?_) rfl (by kernel_rfl) (by kernel_rfl) (by kernel_rfl) (fun _ _ _ h => h) (by rfl) ?_ hHeld ?_; rotate_left; (· (intro wS hSw; (try dsimp only at hSw); go_simp; first | done | with_reducible rfl)); simp only [Act.put, List.setIfInBounds_toArray, List.set_cons_zero, List.set_cons_succ]); (refine take_op (i := 1) (v := ?_) rfl (by kernel_rfl) (by kernel_rfl) (by kernel_rfl) (fun _ _ _ h => h) (by rfl) ?_ hHeld ?_; rotate_left; (· (intro wS hSw; (try dsimp only at hSw); go_simp; first | done | with_reducible rfl)); simp only [Act.put, List.setIfInBounds_toArray, List.set_cons_zero, List.set_cons_succ]); (refine take_op (i := 2) (v := ?_) rfl (by kernel_rfl) (by kernel_rfl) (by kernel_rfl) (fun _ _ _ h => h) (by rfl) ?_ hHeld ?_; rotate_left; (· (intro wS hSw; (try dsimp only at hSw); go_simp; first | done | with_reducible rfl)); simp only [Act.put, List.setIfInBounds_toArray, List.set_cons_zero, List.set_cons_succ]); (refine take_op (i := 3) (v := ?_) rfl (by kernel_rfl) (by kernel_rfl) (by kernel_rfl) (fun _ _ _ h => h) (by rfl) ?_ hHeld ?_; rotate_left; (· (intro wS hSw; (try dsimp only at hSw); go_simp; first | done | with_reducible rfl)); simp only [Act.put, List.setIfInBounds_toArray, List.set_cons_zero, List.set_cons_succ]); (refine take_op (i := 4) (v := ?_) rfl (by kernel_rfl) (by kernel_rfl) (by kernel_rfl) (fun _ _ _ h => h) (by rfl) ?_ hHeld ?_; rotate_left; (· (intro wS hSw; (try dsimp only at hSw); go_simp; first | done | with_reducible rfl)); simp only [Act.put, List.setIfInBounds_toArray, List.set_cons_zero, List.set_cons_succ]); (refine take_op (i := 5) (v := ?_) rfl (by kernel_rfl) (by kernel_rfl) (by kernel_rfl) (fun _ _ _ h => h) (by rfl) ?_ hHeld ?_; rotate_left; (· (intro wS hSw; (try dsimp only at hSw); go_simp; first | done | with_reducible rfl)); simp only [Act.put, List.setIfInBounds_toArray, List.set_cons_zero, List.set_cons_succ]); (refine take_op (i := 6) (v := ?_) rfl (by kernel_rfl) (by kernel_rfl) (by kernel_rfl) (fun _ _ _ h => h) (by rfl) ?_ hHeld ?_; rotate_left; (· (intro wS hSw; (try dsimp only at hSw); go_simp; first | done | with_reducible rfl)); simp only [Act.put, List.setIfInBounds_toArray, List.set_cons_zero, List.set_cons_succ]); (refine take_op (i := 7) (v := ?_) rfl (by kernel_rfl) (by kernel_rfl) (by kernel_rfl) (fun _ _ _ h => h) (by rfl) ?_ hHeld ?_; rotate_left; (· (intro wS hSw; (try dsimp only at hSw); go_simp; first | done | with_reducible rfl)); simp only [Act.put, List.setIfInBounds_toArray, List.set_cons_zero, List.set_cons_succ]); (refine take_op (i := 8) (v := ?_) rfl (by kernel_rfl) (by kernel_rfl) (by kernel_rfl) (fun _ _ _ h => h) (by rfl) ?_ hHeld ?_; rotate_left; (· (intro wS hSw; (try dsimp only at hSw); go_simp; first | done | with_reducible rfl)); simp only [Act.put, List.setIfInBounds_toArray, List.set_cons_zero, List.set_cons_succ])
                    (refine wpAnyH_done (by kernel_rfl) ?_ _)
                    clear p0 p1 q0 q1
                    go_wp2_with fail
                    go_roundw
                    case rel => exact ⟨i3 + 1, by omega, by rw [HS.out], by go_num, D, I⟩
                    case measure => simp [intOf]; omega
                · obtain rfl : i3 = i := by omega
                  have ni : ¬ (i3 : Int) < (i3 : Int) := by omega
                  obtain ⟨E1, E2, E3, E4⟩ := HE.out
                  obtain rfl : la = t.2 := by rw [HLA.out, E1]
                  have g1 : ¬ t.2 ≤ last2 := by omega
                  have g2 : ¬ (now : Int) < t.2 := by omega
                  have HE3 := Lib.hid E3
                  clear E1 E3 HLA HE
                  go_wp2_with fail
                  go_roundw
                  case rel => exact ⟨j + 1, by omega, by go_num, by rw [← HE3.out]; rfl, by go_num, D, I⟩
                  case measure => simp [intOf]; omega
            · obtain rfl : j = m' := by omega
              have nj : ¬ (j : Int) < (j : Int) := by omega
              clear I
              go_wp2_with fail
              go_roundw
              case rel => exact ⟨told + j, now + 1 + q8, by have := Hx.out; omega, rfl, by rw [HL2.out], by go_num, by omega, Lib.hid (fun t ht => by have := HK2.out t ht; omega), D⟩
              case measure => simp [intOf]; omega
        · have n0 : ¬ (now : Int) < (i : Int) + 8 := by omega
          have hnil : x.drop told = [] := by
            cases hd : x.drop told with
            | nil => rfl
            | cons t r =>
              have h1 := HN.out t (by rw [hd]; simp)
              have h2 := (HT.out.len t (List.mem_of_mem_drop (by rw [hd]; simp))).2
              omega
          obtain rfl : told = x.length := by
            have h1 := congrArg List.length hnil
            rw [List.length_drop] at h1
            simp at h1
            omega
          have P2 : WA w wr i [] := by rw [hnil] at P; exact P
          have hlen := fun W (h : WhAt W (w.heap.size + 1) w.heap.size i []) => whlen_any _ _ _ [] W h
          clear P hnil HN HT hlast
          go_wp2_with (first | (go_at_call 20; (with_reducible refine (hlen _ P2.wh).mono ?_); rintro e w13 ⟨rfl, hb13⟩; replace P2 := P2.keep hb13) | (go_at_call 17; (with_reducible refine (haw _).mono ?_); rintro e w2 ⟨rfl, hb2⟩; replace P2 := P2.keep hb2))
          go_ret
          exact ⟨rfl, P2.hb⟩
end Go.Proofs.Ytpdlhcfepafjeaa
