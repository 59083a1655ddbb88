/- slices.Compact at ids. -/
import Derived.Test.YtmgiholmhhjpaaaIdRow
import Derived.WalkKit
import Derived.WalkSpells
import Derived.WalkLawsBesides
import Derived.Deep.RegionHeld3
import Derived.Deep.DrawnRows
import Derived.Deep.DeepCutAuto
import Derived.Deep.DeepFit
import Derived.Lib.Hide
import Derived.BigQuiet
import Derived.Deep.QuietTactic
namespace Go.Proofs.Ytmgiholmhhjpaaa
open Go.RowKit
set_option linter.unusedVariables false
set_option linter.unusedSimpArgs false
set_option maxRecDepth 20000
attribute [local go_sem ↓] Go.wp_at_zero Go.wp_at_succ
attribute [local go_sem] World.cell?_alloc_some frozen_alloc_some
open Go.Sort Go.Lib

theorem below_far {B : Nat} {a w : World} (h : Below B a w) {p : Addr} (hp : B ≤ p.block) (v : Value) : Below B a (w.setCell p v) := h.setCell hp v
theorem get_list (d : Array IdP) (i : Nat) (hi : i < d.size) : d.toList[i]? = some d[i]! := by
  rw [getElem!_pos d i hi, List.getElem?_eq_getElem (by simpa using hi)]
  simp
theorem run_clear_ids (w : World) (ty : TypeId) (b o n c : Nat) (hn : 0 < n) (hc : ∀ j, j < n * 2 → (w.cell? ⟨b, o + j, none⟩).isSome = true) (hf : ∀ j, j < n * 2 → w.frozen? ⟨b, o + j, none⟩ = false) :
    (Builtin.clear_ #[22] ty #[.slice (some ⟨b, o, none⟩) n c]).run Try.prog w = .ok (.tuple #[]) (w.setCells b o (List.replicate (n * 2) (.int .i64 0))) := by
  have hzc : (Builtin.zeroCells (Value.cells (.agg #[.int .i64 0, .int .i64 0])) n).toList = List.replicate (n * 2) (.int .i64 0) := by
    simp [Builtin.zeroCells, Value.cells]
    apply List.ext_getElem
    · simp
    · intro i h1 h2
      rcases Nat.mod_two_eq_zero_or_one i with e | e <;> simp [e]
  have hst := run_storeCells_cells (P := Try.prog) b o (List.replicate (n * 2) (.int .i64 0)) 0 w (by simpa using hc) (by simpa using hf) (by intro v hv'; rw [List.eq_of_mem_replicate hv']; rfl)
  simp only [Nat.add_zero] at hst
  obtain ⟨m, rfl⟩ : ∃ m, n = m + 1 := ⟨n - 1, by omega⟩
  have hv := Try.zeroValue42
  simp only [Value.cells] at hzc
  simp [Builtin.clear_, run_underlying Try.underlying22, hv, hzc, hst, Value.cells]
theorem rowAt_setCells {w : World} {g o : Nat} {vs : List Value} {l : List IdP} {k : Nat} (h : RowAt w g l) (ho : k * 2 ≤ o) : RowAt (w.setCells g o vs) g (l.take k) := fun i x hi => by
  rw [List.getElem?_take] at hi
  split at hi
  · rename_i hik
    obtain ⟨h1, h2, h3, h4⟩ := h i x hi
    refine ⟨?_, ?_, ?_, ?_⟩
    · rw [World.cell?_setCells_out _ _ _ _ _ (fun _ _ => .inl (by simp only; omega))]; exact h1
    · rw [World.cell?_setCells_out _ _ _ _ _ (fun _ _ => .inl (by simp only; omega))]; exact h2
    · rw [World.frozen?_setCells]; exact h3
    · rw [World.frozen?_setCells]; exact h4
  · cases hi

section
attribute [local go_sem ↓ high] id_neq_run id_eql_run
set_option maxHeartbeats 8000000 in
theorem compact_any (g cap : Nat) (d : Array IdP) (w : World) (hr : RowAt w g d.toList) (hg : g < w.heap.size) (hcap : d.size ≤ cap) (hcm : cap ≤ maxLen) (hl : d.size ≤ 1000000) (hwf : ∀ x ∈ d.toList, (Lit.int .i64 x.1).wf = true ∧ (Lit.int .i64 x.2).wf = true) :
    Calls Try.prog 28 #[.slice (some ⟨g, 0, none⟩) d.size cap] w
      fun e w' => ∃ k, e = .returned (.slice (some ⟨g, 0, none⟩) k cap) ∧ k ≤ cap ∧ IdsAt w' (some ⟨g, 0, none⟩) k (compactUpTo d d.size) ∧ ∀ B, B ≤ g → Below B w w' := by
  have Hwf := Lib.hid hwf
  clear hwf
  obtain ⟨n, hn⟩ : ∃ n, n = d.size := ⟨_, rfl⟩
  have Hn := Lib.hid hn
  have hnl : d.toList.length = n := by rw [hn]; simp
  rw [← hn] at hcap hl ⊢
  have Hnl := Lib.hid hnl
  clear hn hnl
  have hc63 : cap ≤ 9223372036854775807 := by unfold maxLen at hcm; omega
  have hmem : ∀ x ∈ compactUpTo d n, x ∈ d.toList := fun x hx => by
    unfold compactUpTo at hx
    obtain ⟨j, hj, rfl⟩ := List.mem_map.1 hx
    have hj2 := List.mem_range.1 (List.mem_filter.1 hj).1
    rw [Hn.out] at hj2
    exact List.mem_of_getElem? (get_list d j hj2)
  have Hmem := Lib.hid hmem
  clear hmem
  by_cases h2 : n < 2
  · have hall : compactUpTo d n = d.toList := by
      rw [compactUpTo_all d n (fun j hj => by
        have : j = 0 := by omega
        subst this; simp [Go.Lib.keeps]), Hn.out]
      exact range_map_get d
    have Hr := Lib.hid hr
    have Hl := Lib.hid hall
    have h2i : (n : Int) < 2 := by omega
    clear hr hall
    go_enter Try.func28, Try.ntmps28
    go_wp2_with fail
    go_ret
    exact ⟨n, rfl, hcap, by rw [Hl.out]; exact Hr.out.ids Hnl.out (by omega) (fun _ _ h => h) Hwf.out, fun B _ => Below.refl _ _⟩
  have h2i : ¬ (n : Int) < 2 := by omega
  have Hr := Lib.hid hr
  clear hr
  go_enter Try.func28, Try.ntmps28
  go_wp2_with fail
  go_loopw [3] (fun s3 wr => ∃ k : Nat, 1 ≤ k ∧ k ≤ n ∧ s3 = .int .i64 k ∧ (∀ j, j < k → Go.Lib.keeps d j = true) ∧ RowAt wr g d.toList ∧ g < wr.heap.size ∧ ∀ B, B ≤ g → Below B w wr) (fun s3 _ => n - (intOf s3).toNat)
  case atStart => exact ⟨1, by omega, by omega, rfl, keeps_lt_one d, Hr.out, hg, fun B _ => Below.refl _ _⟩
  case round =>
    obtain ⟨k, hk1, hk, rfl, hall, hrow, hgr, hbr⟩ := hrel
    have Hall := Lib.hid hall
    have Hrow := Lib.hid hrow
    have Hbr := Lib.hid hbr
    clear hall hrow hbr
    by_cases hlt : k < n
    · obtain ⟨p, hp⟩ : ∃ p, k = p + 1 := ⟨k - 1, by omega⟩
      obtain ⟨r, n1, hx⟩ : ∃ r n1, d[k]! = (r, n1) := ⟨_, _, rfl⟩
      obtain ⟨r2, n2, hy⟩ : ∃ r n1, d[p]! = (r, n1) := ⟨_, _, rfl⟩
      obtain ⟨p0, p1, _, _⟩ := Hrow.out k (r, n1) (by rw [← hx]; exact get_list d k (by have := Hn.out; omega))
      obtain ⟨q0, q1, _, _⟩ := Hrow.out p (r2, n2) (by rw [← hy]; exact get_list d p (by have := Hn.out; omega))
      simp only at p0 p1 q0 q1
      have k0 : (0 : Int) ≤ (k : Int) := by omega
      have k1 : (k : Int) < (n : Int) := by omega
      have kp : IntKind.i64.wrap ((k : Int) - 1) = (p : Int) := by rw [show (k : Int) - 1 = p by omega]; exact IntWalk.i64_in _ (by omega)
      have kp0 : (0 : Int) ≤ (p : Int) := by omega
      have kp1 : (p : Int) < (n : Int) := by omega
      have X := Lib.hid hx
      have Y := Lib.hid hy
      have P := Lib.hid hp
      clear hx hy hp
      by_cases hdup : r = r2 ∧ n1 = n2
      · have hd' : (r == r2 && n1 == n2) = true := by simp [hdup]
        have Hneg := Lib.hid (show Go.Lib.keeps d k = false from keeps_neg (by omega) (by rw [show k - 1 = p by have := P.out; omega, X.out, Y.out, hdup.1, hdup.2]))
        clear hdup
        go_upto_region 6 with fail
        go_region
        go_wp2_with fail
        obtain ⟨N2, hN2⟩ : ∃ N2, N2 = n - k := ⟨_, rfl⟩
        obtain ⟨C2, hC2⟩ : ∃ C2, C2 = cap - k := ⟨_, rfl⟩
        rw [← hN2, ← hC2]
        have HN2 := Lib.hid hN2
        clear hN2 hC2 p0 p1 q0 q1 kp
        go_loopw [3, 5] (fun s3 s5 wq => ∃ (kk k2 : Nat) (dk : Array IdP), s3 = .int .i64 kk ∧ s5 = .int .i64 k2 ∧ 1 ≤ k2 ∧ k2 ≤ N2 ∧ CompInv d (k + k2) kk dk ∧ RowAt wq g dk.toList ∧ g < wq.heap.size ∧ ∀ B, B ≤ g → Below B w wq) (fun s3 s5 _ => N2 - (intOf s5).toNat)
        case atStart =>
          exact ⟨k, 1, d, rfl, rfl, by omega, by have := HN2.out; omega, CompInv.start Hall.out Hneg.out, fun i x hi => by simpa using Hrow.out i x hi, by simpa using hgr, fun B hB => by have := Hbr.out B hB; first | exact this | exact below_drewN this _ | exact this.drew⟩
        case round =>
          obtain ⟨kk, k2, dk, rfl, rfl, h1, hle, hI, hrow2, hgr2, hbr2⟩ := hrel
          have hkk := hI.lt
          have hds := hI.size
          have Hrow2 := Lib.hid hrow2
          have Hbr2 := Lib.hid hbr2
          have HI := Lib.hid hI
          have hkn : kk < n := by have := HN2.out; omega
          have hdn : dk.size = n := by rw [hds]; exact Hn.out.symm
          have kk0 : (0 : Int) ≤ (kk : Int) := by omega
          have kk1 : (kk : Int) < (n : Int) := by omega
          obtain ⟨f0, f1, f2, f3⟩ := hrow2 kk dk[kk]! (get_list dk kk (by omega))
          clear hrow2 hbr2
          by_cases hlt2 : k2 < N2
          · obtain ⟨p2, hp2⟩ : ∃ p, k2 = p + 1 := ⟨k2 - 1, by omega⟩
            have hm : k + k2 < d.size := by have := HN2.out; have := Hn.out; omega
            obtain ⟨u, un, hu⟩ : ∃ r n1, d[k + k2]! = (r, n1) := ⟨_, _, rfl⟩
            obtain ⟨v, vn, hv⟩ : ∃ r n1, d[k + k2 - 1]! = (r, n1) := ⟨_, _, rfl⟩
            obtain ⟨c0, c1, _, _⟩ := Hrow2.out (k + k2) (u, un) (by rw [← hu, ← hI.high (k + k2) (by omega)]; exact get_list dk _ (by omega))
            obtain ⟨e0, e1, _, _⟩ := Hrow2.out (k + k2 - 1) (v, vn) (by rw [← hv, ← hI.high (k + k2 - 1) (by omega)]; exact get_list dk _ (by omega))
            rw [show (k + k2) * 2 = k * 2 + k2 * 2 by omega] at c0 c1
            rw [show (k + k2 - 1) * 2 = k * 2 + p2 * 2 by omega] at e0 e1
            simp only at c0 c1 e0 e1
            have U := Lib.hid hu
            have V := Lib.hid hv
            have a0 : (0 : Int) ≤ (k2 : Int) := by omega
            have a1 : (k2 : Int) < (N2 : Int) := by omega
            have ap : IntKind.i64.wrap ((k2 : Int) - 1) = (p2 : Int) := by rw [show (k2 : Int) - 1 = p2 by omega]; exact IntWalk.i64_in _ (by omega)
            have ap0 : (0 : Int) ≤ (p2 : Int) := by omega
            have ap1 : (p2 : Int) < (N2 : Int) := by omega
            clear hu hv hp2 hI
            by_cases huv : u = v ∧ un = vn
            · have huv' : (u == v && un == vn) = true := by simp [huv]
              have Hs := Lib.hid (HI.out.skip (keeps_neg (by omega) (by rw [U.out, V.out, huv.1, huv.2])))
              clear huv
              go_upto_region 11 with fail
              go_region
              all_goals
                go_wp2_with fail
                go_roundw
                case rel => exact ⟨kk, k2 + 1, dk, rfl, by go_num, by omega, by omega, Hs.out, fun i x hi => by simpa using Hrow2.out i x hi, by simpa using hgr2, fun B hB => by have := Hbr2.out B hB; first | exact this | exact below_drewN this _ | exact this.drew⟩
                case measure => simp [intOf]; omega
            · have huv' : (u == v && un == vn) = false := by simpa using huv
              have Hs := Lib.hid (HI.out.keep hm (keeps_pos (by
                rw [U.out, V.out]
                intro h; injection h with h1 h2; exact huv ⟨h1, h2⟩)))
              clear huv
              go_upto_region 11 with fail
              go_region
              all_goals
                go_wp2_with fail
                go_roundw
                case rel =>
                  refine ⟨kk + 1, k2 + 1, dk.setIfInBounds kk (u, un), by go_num, by go_num, by omega, by omega, ?_, ?_, by simpa using hgr2, fun B hB => ?_⟩
                  · have h := Hs.out
                    rw [U.out] at h
                    exact h
                  · have h := Hrow2.out.set (k := kk) (by simp; omega) (u, un)
                    rw [Array.toList_setIfInBounds]
                    exact fun i x hi => by simpa using h i x hi
                  · have h := Hbr2.out B hB
                    have h2 := (h.setCell (p := ⟨g, kk * 2, none⟩) hB (.int .i64 u)).setCell (p := ⟨g, kk * 2 + 1, none⟩) hB (.int .i64 un)
                    first | exact h2 | exact h2.drew | exact below_drewN h2 _
                case measure => simp [intOf]; omega
          · have hend : k + k2 = d.size := by have := HN2.out; have := Hn.out; omega
            have hrows : ∀ j, j < (n - kk) * 2 → (wr.cell? ⟨g, kk * 2 + j, none⟩).isSome = true ∧ wr.frozen? ⟨g, kk * 2 + j, none⟩ = false := fun j hj => by
              obtain ⟨m1, m2, m3, m4⟩ := Hrow2.out (kk + j / 2) dk[kk + j / 2]! (get_list dk _ (by omega))
              rcases Nat.mod_two_eq_zero_or_one j with e | e
              · rw [show (kk + j / 2) * 2 = kk * 2 + j by omega] at m1 m3
                exact ⟨by rw [m1]; rfl, m3⟩
              · rw [show (kk + j / 2) * 2 + 1 = kk * 2 + j by omega] at m2 m4
                exact ⟨by rw [m2]; rfl, m4⟩
            have hcl : ∀ ty, (Builtin.clear_ #[22] ty #[.slice (some ⟨g, kk * 2, none⟩) (n - kk) (cap - kk)]).run Try.prog wr = .ok (.tuple #[]) (wr.setCells g (kk * 2) (List.replicate ((n - kk) * 2) (.int .i64 0))) :=
              fun ty => run_clear_ids wr ty g (kk * 2) (n - kk) (cap - kk) (by omega) (fun j hj => (hrows j hj).1) (fun j hj => (hrows j hj).2)
            have nk2 : ¬ (k2 : Int) < (N2 : Int) := by omega
            have kc : ¬ cap = kk := by omega
            have kc2 : (kk : Int) ≤ (cap : Int) := by omega
            have kc3 : (kk : Int) ≤ (n : Int) := by omega
            have kc4 : (n : Int) ≤ (cap : Int) := by omega
            clear hrows f0 f1 f2 f3 hI
            go_wp2_with fail
            go_ret
            have hI2 := HI.out
            rw [hend] at hI2
            have hlen : (compactUpTo d n).length = kk := by rw [Hn.out]; exact hI2.len
            refine ⟨kk, rfl, by omega, ?_, fun B hB => ?_⟩
            · refine (rowAt_setCells (k := kk) Hrow2.out (Nat.le_refl _)).ids hlen (by omega) (fun i x hi => ?_) (fun x hx => Hwf.out x (Hmem.out x hx))
              have hik : i < kk := by rw [← hlen]; exact (List.getElem?_eq_some_iff.1 hi).1
              rw [List.getElem?_take, if_pos hik, get_list dk i (by omega)]
              have h := hI2.low i hik
              rw [← Hn.out, hi] at h
              exact h.symm
            · exact below_setCells hB _ _ (Hbr2.out B hB)
      · have hd' : (r == r2 && n1 == n2) = false := by simpa using hdup
        have Hpos := Lib.hid (show Go.Lib.keeps d k = true from keeps_pos (by
          rw [show k - 1 = p by have := P.out; omega, X.out, Y.out]
          intro h; injection h with h1 h2; exact hdup ⟨h1, h2⟩))
        clear hdup
        go_upto_region 6 with fail
        go_region
        all_goals
          go_wp2_with fail
          go_roundw
          case rel => exact ⟨k + 1, by omega, by omega, by go_num, fun j hj => by
            rcases Nat.lt_or_ge j k with h | h
            · exact Hall.out j h
            · rw [show j = k by omega]; exact Hpos.out, fun i x hi => by simpa using Hrow.out i x hi, by simpa using hgr, fun B hB => by have := Hbr.out B hB; first | exact this | exact below_drewN this _ | exact this.drew⟩
          case measure => simp [intOf]; omega
    · have hkn : k = n := by omega
      have hall : compactUpTo d n = d.toList := by
        rw [compactUpTo_all d n (fun j hj => Hall.out j (by omega)), Hn.out]
        exact range_map_get d
      have Hl := Lib.hid hall
      clear hall
      have nk : ¬ (k : Int) < (n : Int) := by omega
      go_wp2_with fail
      go_ret
      exact ⟨n, rfl, hcap, by rw [Hl.out]; exact Hrow.out.ids Hnl.out (by omega) (fun _ _ h => h) Hwf.out, Hbr.out⟩
end
end Go.Proofs.Ytmgiholmhhjpaaa
