/- slices.Concat, slices.Equal of bytes, log.four. -/
import Derived.Test.YtpdlhcfepafjeaaLogPl
import Derived.Test.YtpdlhcfepafjeaaAppC
import Derived.Test.YtpdlhcfepafjeaaNum
import Derived.Test.YtpdlhcfepafjeaaCrc
import Derived.Test.YtpdlhcfepafjeaaGrowBL
import Derived.WalkKit
import Derived.WalkSpells
import Derived.WalkLawsBesides
import Derived.Deep.RegionHeld3
import Derived.Deep.DrawnRows
import Derived.Deep.DeepCutAuto
import Derived.Deep.DeepFit
import Derived.Lib.Hide
import Derived.BigQuiet
import Derived.Deep.QuietTactic
namespace Go.Proofs.Ytpdlhcfepafjeaa
open Go.RowKit
set_option linter.unusedVariables false
set_option linter.unusedSimpArgs false
set_option maxRecDepth 20000
attribute [local go_sem ↓] Go.wp_at_zero Go.wp_at_succ
attribute [local go_sem] World.cell?_alloc_some frozen_alloc_some
open Go.Sort Go.Lib Go.Shelf

theorem grow_bytes (n : Nat) (W : World) (hn : n ≤ 1073741824) :
    Calls Try.prog 112 #[.slice none 0 0, .int .i64 n] W fun e w' => ∃ v, e = .returned v ∧ OwnB w' W.heap.size 5 v [] ∧ Below W.heap.size W w' := by
  have hinf := info_u8
  obtain ⟨i0, hi, e0⟩ := Option.map_eq_some_iff.1 hinf
  simp only [Prod.mk.injEq] at e0
  obtain ⟨hz0, hz1, hz2⟩ := e0
  by_cases h0 : n = 0
  · subst h0
    have h := Any8.slices_Grow_room Try.growB none 0 0 0 W (Nat.le_refl _) (by omega) (by omega) (Nat.le_refl _)
    change Calls Try.prog 112 _ _ _ at h
    refine h.mono fun e w' ⟨he, hw⟩ => ⟨_, he, OwnB.nil_ _ _ _, by rw [hw]; exact Below.refl _ _⟩
  · have h := Any8.slices_Grow_grow Try.growB i0 _ hi hz0 (by omega) none 0 0 n [] W (Nat.le_refl _) (by omega) (by rw [hz2]; omega) (by omega) (by simp) (fun _ => rfl) (fun a h => by cases h)
    change Calls Try.prog 112 _ _ _ at h
    refine h.mono fun e w' ⟨he, hw⟩ => ⟨_, he, ?_, ?_⟩
    · have hge := grownCap_ge W (0 + n) 0 (Try.growB_ren.t 25)
      have hle := grownCap_le_maxLen W (0 + n) 0 (Try.growB_ren.t 25) (by unfold maxLen; omega)
      rw [hw]
      generalize grownCap W (0 + n) 0 (Try.growB_ren.t 25) = G at *
      refine ⟨⟨rfl, .inr ⟨W.heap.size, G, _, rfl, Nat.le_refl _, heap_alloc_new W.drew _, Nat.zero_le _, hle, ?_, rfl⟩⟩, by simp⟩
      have e2 : (Value.cells (.int .u8 0)).size = 1 := rfl
      simp only [Array.size_append, Builtin.zeroCells, Array.size_append, e2, List.size_toArray, List.length_nil]
      simp [Builtin.zeroCells]
      omega
    · rw [hw]; exact ((Below.refl _ _).drew).alloc (Nat.le_refl _) _

theorem flat_take {ls : List (List Nat)} {k : Nat} {l : List Nat} (h : ls[k]? = some l) : (ls.take (k + 1)).flatten = (ls.take k).flatten ++ l := by
  rw [List.take_add_one, h, List.flatten_append]; simp
theorem flat_take_le (ls : List (List Nat)) (k : Nat) : (ls.take k).flatten.length ≤ ls.flatten.length := by
  have h : ls.flatten = (ls.take k).flatten ++ (ls.drop k).flatten := by rw [← List.flatten_append, List.take_append_drop]
  rw [h, List.length_append]; omega
theorem Texts.flat_lt {w : World} {A : Option Addr} {n : Nat} {ls : List (List Nat)} (h : Texts w A n ls) (k : Nat) : ∀ c ∈ (ls.take k).flatten, c < 256 :=
  flatten_lt fun l hl => by
    obtain ⟨i, hi⟩ := List.getElem?_of_mem (List.mem_of_mem_take hl)
    obtain ⟨_, _, _, _, _, _, hbl⟩ := h.2.2 i l hi
    exact hbl.lt

set_option maxHeartbeats 4000000 in
theorem concat_bytes (A : Option Addr) (n c : Nat) (ls : List (List Nat)) (w : World) (hp : Texts w A n ls) (ht : ls.flatten.length ≤ 1000000000) :
    Calls Try.prog 81 #[.slice A n c] w (Makes w 5 ls.flatten) := by
  have hinf := info_u8
  obtain ⟨i0, hi, e0⟩ := Option.map_eq_some_iff.1 hinf
  simp only [Prod.mk.injEq] at e0
  obtain ⟨hz0, hz1, hz2⟩ := e0
  have hn1 := hp.1
  have Hn := Lib.hid hn1
  have hn2 := hp.2.1
  unfold maxLen at hn2
  have Hp := Lib.hid hp
  have Ht := Lib.hid ht
  have Hgr := Lib.hid (fun W => grow_bytes ls.flatten.length W (by omega))
  clear hn1 hp hinf
  obtain ⟨T, hT⟩ : ∃ T, T = ls.flatten.length := ⟨_, rfl⟩
  have ht1 : T ≤ 1000000000 := by omega
  have HT := Lib.hid hT
  rw [← hT] at Hgr
  clear hT ht
  go_enter Try.func81, Try.ntmps81
  go_wp2_with fail
  go_loop [3, 11] (fun s3 s11 => ∃ k m : Nat, k ≤ n ∧ m ≤ T ∧ s11 = .int .i64 k ∧ s3 = .int .i64 m ∧ m = (ls.take k).flatten.length) (fun _ s11 => n - (intOf s11).toNat)
  case atStart => exact ⟨0, 0, by omega, by omega, rfl, rfl, rfl⟩
  case round =>
    obtain ⟨k, m, hk, hm, rfl, rfl, hmm⟩ := hrel
    have Hm := Lib.hid hmm
    clear hmm
    by_cases hlt : k < n
    · have hkl : k < ls.length := by have := Hn.out; omega
      have hks := List.getElem?_eq_getElem hkl
      obtain ⟨ad, B, m', c', rfl, hcell, hby⟩ := Hp.out.2.2 k ls[k] hks
      have hnx : m + m' = (ls.take (k + 1)).flatten.length := by rw [flat_take hks, List.length_append, ← Hm.out, hby.1]
      have Hnx := Lib.hid hnx
      have hle := flat_take_le ls (k + 1)
      have hb1 : m + m' ≤ T := by rw [hnx, HT.out]; exact hle
      clear hks hby hnx hle hkl
      have w2 : IntKind.i64.wrap ((m : Int) + (m' : Int)) = ((m + m' : Nat) : Int) := by rw [show (m : Int) + (m' : Int) = ((m + m' : Nat) : Int) by omega]; exact IntWalk.i64_in _ (by omega)
      have n2 : ¬ ((m + m' : Nat) : Int) < 0 := by omega
      generalize hM : m + m' = M at *
      clear hM
      go_wp2_with fail
      go_round
      case rel => exact ⟨k + 1, M, by omega, hb1, by go_num, rfl, Hnx.out⟩
      case measure => simp [intOf]; omega
    · have hkn : k = ls.length := by have := Hn.out; omega
      have hfull : m = T := by rw [Hm.out, HT.out, hkn, List.take_length]
      subst hfull
      clear hkn
      have n2 : ¬ ((m : Nat) : Int) < 0 := by omega
      go_wp2_with (go_at_call 112; refine (Hgr.out _).mono ?_; rintro e w3 ⟨v3, rfl, hown, hb3⟩; have O3 := Lib.hid hown; clear hown)
      go_loopw [6, 27] (fun s6 s27 wr => ∃ k : Nat, k ≤ n ∧ s27 = .int .i64 k ∧ OwnB wr w.heap.size 5 s6 (ls.take k).flatten ∧ Below w.heap.size w wr) (fun _ s27 _ => n - (intOf s27).toNat)
      case atStart => exact ⟨0, by omega, rfl, O3.out, hb3⟩
      case round =>
        obtain ⟨k2, hk2, rfl, hown, hbr⟩ := hrel
        have hzr := hbr.size
        by_cases hlt2 : k2 < n
        · have hkl : k2 < ls.length := by have := Hn.out; omega
          have hks := List.getElem?_eq_getElem hkl
          obtain ⟨ad, B, m', c', rfl, hcell, hby⟩ := (Hp.out.keep hbr).2.2 k2 ls[k2] hks
          have hsrc := Src.of_bytes hby
          have hle := flat_take_le ls (k2 + 1)
          have hfl := flat_take hks
          have hlb : (ls.take k2).flatten.length + m' ≤ 1000000000 := by
            rw [hfl, List.length_append, ← hby.1] at hle
            have := Ht.out
            omega
          have Hlt := Lib.hid hby.lt
          have hm1 := hby.1
          have Hfl := Lib.hid hfl
          generalize ls[k2] = lk at *
          generalize (ls.take k2).flatten = L at *
          generalize hL2 : (ls.take (k2 + 1)).flatten = L2 at *
          have HL2 := Lib.hid hL2
          clear hL2
          clear hks hle hfl hby hkl
          obtain ⟨A6, c6, rfl, hl6, hc6⟩ := hown.form
          have hlo := hown.2
          have hol := hown.1
          have Hm1 := Lib.hid hm1
          clear hm1
          have j0 : (0 : Int) ≤ (k2 : Int) := by omega
          have j1 : (k2 : Int) < (n : Int) := by omega
          go_wp2_with (at_builtin; go_loud (refine wpList_app _ rfl (.tmp 31) (.tmp 32) 22 rfl _ 5 i0 _ 1 1 Try.underlying22 hi hz0 hz1 hz2 rfl (by omega) _ _ _ rfl hol _ _ _ _ rfl hsrc ?h63 ?hby ?hbase ?_); (case h63 => (unfold maxLen; first | omega | (simp; done) | (simp; omega))); (case hby => first | omega | (simp; done) | (simp; omega)); (case hbase => first | omega | (simp; done) | (simp; omega)); intro v2 w2' hownw2' hgroww2' hatw2' holdw2')
          have hb2 := below_app hbr hol hgroww2' (Nat.le_refl _) hzr
          have hown2 : OwnB w2' w.heap.size 5 v2 L2 := by rw [Hfl.out]; exact OwnB.join (by rw [← Hm1.out]; exact hownw2') hlo Hlt.out
          go_roundw
          case rel => exact ⟨k2 + 1, by omega, by go_num, by rw [HL2.out]; exact hown2, hb2⟩
          case measure => simp [intOf]; omega
        · have hkn : k2 = ls.length := by have := Hn.out; omega
          have hfull : (ls.take k2).flatten = ls.flatten := by rw [hkn, List.take_length]
          rw [hfull] at hown
          have Hown := Lib.hid hown
          clear hkn hfull hown hi hz0 hz1 hz2
          go_wp2_with fail
          go_ret
          exact ⟨_, rfl, Hown.out, hbr⟩

theorem same_step {l m : List Nat} {j x : Nat} (h : l.take j = m.take j) (h1 : l[j]? = some x) (h2 : m[j]? = some x) : l.take (j + 1) = m.take (j + 1) := by
  rw [List.take_add_one, List.take_add_one, h, h1, h2]
set_option maxHeartbeats 1000000 in
theorem equal_bytes (A A2 : Option Addr) (m c m2 c2 : Nat) (l l2 : List Nat) (w : World) (h1 : Bytes w A m l) (h2 : Bytes w A2 m2 l2) :
    Calls Try.prog 88 #[.slice A m c, .slice A2 m2 c2] w (Gives w (.bool (decide (l = l2)))) := by
  generalize hR : decide (l = l2) = R
  have HR := Lib.hid hR
  have H1 := Lib.hid h1
  have H2 := Lib.hid h2
  have Hm := Lib.hid h1.1
  have Hm2 := Lib.hid h2.1
  have hc := h1.2.1
  clear hR h1 h2
  by_cases e4 : m = m2
  case neg =>
    have hfin : R = false := by
      rw [← HR.out, decide_eq_false_iff_not]
      intro h; exact e4 (by rw [Hm.out, Hm2.out, h])
    subst hfin
    have e4' : ((m : Int) != (m2 : Int)) = true := by simp; omega
    go_enter Try.func88, Try.ntmps88
    go_wp2_with fail
    go_ret
    exact ⟨rfl, by ((repeat' first | with_reducible exact Below.refl _ _ | with_reducible assumption | with_reducible refine Below.alloc ?_ ?_ _ | with_reducible refine Below.setCell ?_ ?_ _ | with_reducible apply Below.drew | with_reducible apply below_drewN | with_reducible refine below_call ?_ (by with_reducible assumption) ?_) <;> (first | omega | (simp; done) | (simp; omega) | (simp at *; omega)))⟩
  subst e4
  have hmm : m ≤ 9223372036854775807 := by unfold maxLen at hc; omega
  go_enter Try.func88, Try.ntmps88
  go_wp2_with fail
  go_loopw [13] (fun s13 wr => ∃ j : Nat, j ≤ m ∧ s13 = .int .i64 j ∧ l.take j = l2.take j ∧ Below w.heap.size w wr) (fun s13 _ => m - (intOf s13).toNat)
  case atStart => exact ⟨0, by omega, rfl, rfl, by ((repeat' first | with_reducible exact Below.refl _ _ | with_reducible assumption | with_reducible refine Below.alloc ?_ ?_ _ | with_reducible refine Below.setCell ?_ ?_ _ | with_reducible apply Below.drew | with_reducible apply below_drewN | with_reducible refine below_call ?_ (by with_reducible assumption) ?_) <;> (first | omega | (simp; done) | (simp; omega) | (simp at *; omega)))⟩
  case round =>
    obtain ⟨j, hj, rfl, htk, hbr⟩ := hrel
    have hzr := hbr.size
    have Htk := Lib.hid htk
    clear htk
    by_cases hlt : j < m
    · obtain ⟨b, r, rfl, e1, r1, p0⟩ := (H1.out.keep hbr).at_ hlt
      obtain ⟨b2, r2, rfl, e2, s1, q0⟩ := (H2.out.keep hbr).at_ hlt
      have E1 := Lib.hid e1
      have E2 := Lib.hid e2
      clear e1 e2
      have j0 : (0 : Int) ≤ (j : Int) := by omega
      have j1 : (j : Int) < (m : Int) := by omega
      by_cases hok : r = r2
      · subst hok
        have Hnx := Lib.hid (same_step Htk.out E1.out E2.out)
        go_upto_region 3 with fail
        go_region
        all_goals
          go_wp2_with fail
          go_roundw
          case rel => exact ⟨j + 1, by omega, by go_num, Hnx.out, by ((repeat' first | with_reducible exact Below.refl _ _ | with_reducible assumption | with_reducible refine Below.alloc ?_ ?_ _ | with_reducible refine Below.setCell ?_ ?_ _ | with_reducible apply Below.drew | with_reducible apply below_drewN | with_reducible refine below_call ?_ (by with_reducible assumption) ?_) <;> (first | omega | (simp; done) | (simp; omega) | (simp at *; omega)))⟩
          case measure => simp [intOf]; omega
      · have hfin : R = false := by
          rw [← HR.out, decide_eq_false_iff_not]
          intro h
          rw [h] at E1
          have := E1.out.symm.trans E2.out
          injection this with this
          exact hok this
        subst hfin
        have hok' : ((r : Int) != (r2 : Int)) = true := by simp; omega
        go_upto_region 3 with fail
        go_region
        all_goals
          go_wp2_with fail
          go_ret
          exact ⟨rfl, by ((repeat' first | with_reducible exact Below.refl _ _ | with_reducible assumption | with_reducible refine Below.alloc ?_ ?_ _ | with_reducible refine Below.setCell ?_ ?_ _ | with_reducible apply Below.drew | with_reducible apply below_drewN | with_reducible refine below_call ?_ (by with_reducible assumption) ?_) <;> (first | omega | (simp; done) | (simp; omega) | (simp at *; omega)))⟩
    · have hfin : R = true := by
        rw [← HR.out, decide_eq_true_iff]
        have t1 := Htk.out
        rw [List.take_of_length_le (by have := Hm.out; omega), List.take_of_length_le (by have := Hm2.out; omega)] at t1
        exact t1
      subst hfin
      go_wp2_with fail
      go_ret
      exact ⟨rfl, by ((repeat' first | with_reducible exact Below.refl _ _ | with_reducible assumption | with_reducible refine Below.alloc ?_ ?_ _ | with_reducible refine Below.setCell ?_ ?_ _ | with_reducible apply Below.drew | with_reducible apply below_drewN | with_reducible refine below_call ?_ (by with_reducible assumption) ?_) <;> (first | omega | (simp; done) | (simp; omega) | (simp at *; omega)))⟩

/-- A sum's four bytes lie in a new block. -/
theorem four_any (s : Nat) (w : World) (hs : s < 4294967296) : Calls Try.prog 82 #[.int .u32 (s : Int)] w (Makes w 5 (fourB s)) := by
  have hq : OwnB (w.alloc (.cells (u8s (fourB s)).toArray 5)) w.heap.size 5 (.slice (some ⟨w.heap.size, 0, none⟩) 4 4) (fourB s) :=
    ⟨⟨rfl, .inr ⟨w.heap.size, 4, _, rfl, Nat.le_refl _, heap_alloc_new _ _, by rw [fourB_length]; exact Nat.le_refl _, by decide, by simp [u8s, fourB], by simp [u8s, fourB]⟩⟩, fun c hc => by simp [fourB] at hc; omega⟩
  have Hq := Lib.hid hq
  clear hq
  go_enter Try.func82, Try.ntmps82
  go_wp2_with fail
  go_ret
  refine ⟨_, rfl, ?_, by ((repeat' first | with_reducible exact Below.refl _ _ | with_reducible assumption | with_reducible refine Below.alloc ?_ ?_ _ | with_reducible refine Below.setCell ?_ ?_ _ | with_reducible apply Below.drew | with_reducible apply below_drewN | with_reducible refine below_call ?_ (by with_reducible assumption) ?_) <;> (first | omega | (simp; done) | (simp; omega) | (simp at *; omega)))⟩
  have h1 : ((s / 16777216 % 256 : Nat) : Int) = (s : Int) / 16777216 := by omega
  have h2 : ((s / 65536 % 256 : Nat) : Int) = (s : Int) / 65536 % 256 := by omega
  have h3 : ((s / 256 % 256 : Nat) : Int) = (s : Int) / 256 % 256 := by omega
  have h4 : ((s % 256 : Nat) : Int) = (s : Int) % 256 := by omega
  have e : (u8s (fourB s)).toArray = #[.int .u8 ((s : Int) / 16777216), .int .u8 ((s : Int) / 65536 % 256), .int .u8 ((s : Int) / 256 % 256), .int .u8 ((s : Int) % 256)] := by
    simp only [u8s, fourB, List.map_cons, List.map_nil, h1, h2, h3, h4]
  have hq := Hq.out
  rw [e] at hq
  exact hq
end Go.Proofs.Ytpdlhcfepafjeaa
