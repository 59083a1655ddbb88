/- slices.Compact at ids. ids.Set, slices.Concat, ids.Join. -/
import Derived.Test.YtpdfbkkhmfnnjaaIndexMeetsQ3
import Derived.Test.YtpdfbkkhmfnnjaaIndexMeetsQ0
import Derived.WalkKit
import Derived.WalkSpells
import Derived.WalkLawsBesides
import Derived.Deep.RegionHeld3
import Derived.Deep.DrawnRows
import Derived.Deep.DeepCutAuto
import Derived.Deep.DeepFit
import Derived.Lib.Hide
import Derived.BigQuiet
import Derived.Deep.QuietTactic
namespace Go.Proofs.Ytpdfbkkhmfnnjaa
open Go.RowKit
set_option linter.unusedVariables false
set_option linter.unusedSimpArgs false
set_option maxRecDepth 20000
attribute [local go_sem ↓] Go.wp_at_zero Go.wp_at_succ
attribute [local go_sem] World.cell?_alloc_some frozen_alloc_some
open Go.Sort Go.Lib

theorem below_far {B : Nat} {a w : World} (h : Below B a w) {p : Addr} (hp : B ≤ p.block) (v : Value) : Below B a (w.setCell p v) := h.setCell hp v
theorem get_list (d : Array IdP) (i : Nat) (hi : i < d.size) : d.toList[i]? = some d[i]! := by
  rw [getElem!_pos d i hi, List.getElem?_eq_getElem (by simpa using hi)]
  simp
theorem run_clear_ids (w : World) (ty : TypeId) (b o n c : Nat) (hn : 0 < n) (hc : ∀ j, j < n * 2 → (w.cell? ⟨b, o + j, none⟩).isSome = true) (hf : ∀ j, j < n * 2 → w.frozen? ⟨b, o + j, none⟩ = false) :
    (Builtin.clear_ #[42] ty #[.slice (some ⟨b, o, none⟩) n c]).run Try.prog w = .ok (.tuple #[]) (w.setCells b o (List.replicate (n * 2) (.int .i64 0))) := by
  have hzc : (Builtin.zeroCells (Value.cells (.agg #[.int .i64 0, .int .i64 0])) n).toList = List.replicate (n * 2) (.int .i64 0) := by
    simp [Builtin.zeroCells, Value.cells]
    apply List.ext_getElem
    · simp
    · intro i h1 h2
      rcases Nat.mod_two_eq_zero_or_one i with e | e <;> simp [e]
  have hst := run_storeCells_cells (P := Try.prog) b o (List.replicate (n * 2) (.int .i64 0)) 0 w (by simpa using hc) (by simpa using hf) (by intro v hv'; rw [List.eq_of_mem_replicate hv']; rfl)
  simp only [Nat.add_zero] at hst
  obtain ⟨m, rfl⟩ : ∃ m, n = m + 1 := ⟨n - 1, by omega⟩
  have hv := Try.zeroValue26
  simp only [Value.cells] at hzc
  simp [Builtin.clear_, run_underlying Try.underlying42, hv, hzc, hst, Value.cells]
theorem rowAt_setCells {w : World} {g o : Nat} {vs : List Value} {l : List IdP} {k : Nat} (h : RowAt w g l) (ho : k * 2 ≤ o) : RowAt (w.setCells g o vs) g (l.take k) := fun i x hi => by
  rw [List.getElem?_take] at hi
  split at hi
  · rename_i hik
    obtain ⟨h1, h2, h3, h4⟩ := h i x hi
    refine ⟨?_, ?_, ?_, ?_⟩
    · rw [World.cell?_setCells_out _ _ _ _ _ (fun _ _ => .inl (by simp only; omega))]; exact h1
    · rw [World.cell?_setCells_out _ _ _ _ _ (fun _ _ => .inl (by simp only; omega))]; exact h2
    · rw [World.frozen?_setCells]; exact h3
    · rw [World.frozen?_setCells]; exact h4
  · cases hi

section
attribute [local go_sem ↓ high] id_neq_run id_eql_run
set_option maxHeartbeats 8000000 in
theorem compact_any (g cap : Nat) (d : Array IdP) (w : World) (hr : RowAt w g d.toList) (hg : g < w.heap.size) (hcap : d.size ≤ cap) (hcm : cap ≤ maxLen) (hl : d.size ≤ 1000000) (hwf : ∀ x ∈ d.toList, (Lit.int .i64 x.1).wf = true ∧ (Lit.int .i64 x.2).wf = true) :
    Calls Try.prog 68 #[.slice (some ⟨g, 0, none⟩) d.size cap] w
      fun e w' => ∃ k, e = .returned (.slice (some ⟨g, 0, none⟩) k cap) ∧ k ≤ cap ∧ IdsAt w' (some ⟨g, 0, none⟩) k (compactUpTo d d.size) ∧ ∀ B, B ≤ g → Below B w w' := by
  have Hwf := Lib.hid hwf
  clear hwf
  obtain ⟨n, hn⟩ : ∃ n, n = d.size := ⟨_, rfl⟩
  have Hn := Lib.hid hn
  have hnl : d.toList.length = n := by rw [hn]; simp
  rw [← hn] at hcap hl ⊢
  have Hnl := Lib.hid hnl
  clear hn hnl
  have hc63 : cap ≤ 9223372036854775807 := by unfold maxLen at hcm; omega
  have hmem : ∀ x ∈ compactUpTo d n, x ∈ d.toList := fun x hx => by
    unfold compactUpTo at hx
    obtain ⟨j, hj, rfl⟩ := List.mem_map.1 hx
    have hj2 := List.mem_range.1 (List.mem_filter.1 hj).1
    rw [Hn.out] at hj2
    exact List.mem_of_getElem? (get_list d j hj2)
  have Hmem := Lib.hid hmem
  clear hmem
  by_cases h2 : n < 2
  · have hall : compactUpTo d n = d.toList := by
      rw [compactUpTo_all d n (fun j hj => by
        have : j = 0 := by omega
        subst this; simp [Go.Lib.keeps]), Hn.out]
      exact range_map_get d
    have Hr := Lib.hid hr
    have Hl := Lib.hid hall
    have h2i : (n : Int) < 2 := by omega
    clear hr hall
    go_enter Try.func68, Try.ntmps68
    go_wp2_with fail
    go_ret
    exact ⟨n, rfl, hcap, by rw [Hl.out]; exact Hr.out.ids Hnl.out (by omega) (fun _ _ h => h) Hwf.out, fun B _ => Below.refl _ _⟩
  have h2i : ¬ (n : Int) < 2 := by omega
  have Hr := Lib.hid hr
  clear hr
  go_enter Try.func68, Try.ntmps68
  go_wp2_with fail
  go_loopw [3] (fun s3 wr => ∃ k : Nat, 1 ≤ k ∧ k ≤ n ∧ s3 = .int .i64 k ∧ (∀ j, j < k → Go.Lib.keeps d j = true) ∧ RowAt wr g d.toList ∧ g < wr.heap.size ∧ ∀ B, B ≤ g → Below B w wr) (fun s3 _ => n - (intOf s3).toNat)
  case atStart => exact ⟨1, by omega, by omega, rfl, keeps_lt_one d, Hr.out, hg, fun B _ => Below.refl _ _⟩
  case round =>
    obtain ⟨k, hk1, hk, rfl, hall, hrow, hgr, hbr⟩ := hrel
    have Hall := Lib.hid hall
    have Hrow := Lib.hid hrow
    have Hbr := Lib.hid hbr
    clear hall hrow hbr
    by_cases hlt : k < n
    · obtain ⟨p, hp⟩ : ∃ p, k = p + 1 := ⟨k - 1, by omega⟩
      obtain ⟨r, n1, hx⟩ : ∃ r n1, d[k]! = (r, n1) := ⟨_, _, rfl⟩
      obtain ⟨r2, n2, hy⟩ : ∃ r n1, d[p]! = (r, n1) := ⟨_, _, rfl⟩
      obtain ⟨p0, p1, _, _⟩ := Hrow.out k (r, n1) (by rw [← hx]; exact get_list d k (by have := Hn.out; omega))
      obtain ⟨q0, q1, _, _⟩ := Hrow.out p (r2, n2) (by rw [← hy]; exact get_list d p (by have := Hn.out; omega))
      simp only at p0 p1 q0 q1
      have k0 : (0 : Int) ≤ (k : Int) := by omega
      have k1 : (k : Int) < (n : Int) := by omega
      have kp : IntKind.i64.wrap ((k : Int) - 1) = (p : Int) := by rw [show (k : Int) - 1 = p by omega]; exact IntWalk.i64_in _ (by omega)
      have kp0 : (0 : Int) ≤ (p : Int) := by omega
      have kp1 : (p : Int) < (n : Int) := by omega
      have X := Lib.hid hx
      have Y := Lib.hid hy
      have P := Lib.hid hp
      clear hx hy hp
      by_cases hdup : r = r2 ∧ n1 = n2
      · have hd' : (r == r2 && n1 == n2) = true := by simp [hdup]
        have Hneg := Lib.hid (show Go.Lib.keeps d k = false from keeps_neg (by omega) (by rw [show k - 1 = p by have := P.out; omega, X.out, Y.out, hdup.1, hdup.2]))
        clear hdup
        go_upto_region 6 with fail
        go_region
        go_wp2_with fail
        obtain ⟨N2, hN2⟩ : ∃ N2, N2 = n - k := ⟨_, rfl⟩
        obtain ⟨C2, hC2⟩ : ∃ C2, C2 = cap - k := ⟨_, rfl⟩
        rw [← hN2, ← hC2]
        have HN2 := Lib.hid hN2
        clear hN2 hC2 p0 p1 q0 q1 kp
        go_loopw [3, 5] (fun s3 s5 wq => ∃ (kk k2 : Nat) (dk : Array IdP), s3 = .int .i64 kk ∧ s5 = .int .i64 k2 ∧ 1 ≤ k2 ∧ k2 ≤ N2 ∧ CompInv d (k + k2) kk dk ∧ RowAt wq g dk.toList ∧ g < wq.heap.size ∧ ∀ B, B ≤ g → Below B w wq) (fun s3 s5 _ => N2 - (intOf s5).toNat)
        case atStart =>
          exact ⟨k, 1, d, rfl, rfl, by omega, by have := HN2.out; omega, CompInv.start Hall.out Hneg.out, fun i x hi => by simpa using Hrow.out i x hi, by simpa using hgr, fun B hB => by have := Hbr.out B hB; first | exact this | exact below_drewN this _ | exact this.drew⟩
        case round =>
          obtain ⟨kk, k2, dk, rfl, rfl, h1, hle, hI, hrow2, hgr2, hbr2⟩ := hrel
          have hkk := hI.lt
          have hds := hI.size
          have Hrow2 := Lib.hid hrow2
          have Hbr2 := Lib.hid hbr2
          have HI := Lib.hid hI
          have hkn : kk < n := by have := HN2.out; omega
          have hdn : dk.size = n := by rw [hds]; exact Hn.out.symm
          have kk0 : (0 : Int) ≤ (kk : Int) := by omega
          have kk1 : (kk : Int) < (n : Int) := by omega
          obtain ⟨f0, f1, f2, f3⟩ := hrow2 kk dk[kk]! (get_list dk kk (by omega))
          clear hrow2 hbr2
          by_cases hlt2 : k2 < N2
          · obtain ⟨p2, hp2⟩ : ∃ p, k2 = p + 1 := ⟨k2 - 1, by omega⟩
            have hm : k + k2 < d.size := by have := HN2.out; have := Hn.out; omega
            obtain ⟨u, un, hu⟩ : ∃ r n1, d[k + k2]! = (r, n1) := ⟨_, _, rfl⟩
            obtain ⟨v, vn, hv⟩ : ∃ r n1, d[k + k2 - 1]! = (r, n1) := ⟨_, _, rfl⟩
            obtain ⟨c0, c1, _, _⟩ := Hrow2.out (k + k2) (u, un) (by rw [← hu, ← hI.high (k + k2) (by omega)]; exact get_list dk _ (by omega))
            obtain ⟨e0, e1, _, _⟩ := Hrow2.out (k + k2 - 1) (v, vn) (by rw [← hv, ← hI.high (k + k2 - 1) (by omega)]; exact get_list dk _ (by omega))
            rw [show (k + k2) * 2 = k * 2 + k2 * 2 by omega] at c0 c1
            rw [show (k + k2 - 1) * 2 = k * 2 + p2 * 2 by omega] at e0 e1
            simp only at c0 c1 e0 e1
            have U := Lib.hid hu
            have V := Lib.hid hv
            have a0 : (0 : Int) ≤ (k2 : Int) := by omega
            have a1 : (k2 : Int) < (N2 : Int) := by omega
            have ap : IntKind.i64.wrap ((k2 : Int) - 1) = (p2 : Int) := by rw [show (k2 : Int) - 1 = p2 by omega]; exact IntWalk.i64_in _ (by omega)
            have ap0 : (0 : Int) ≤ (p2 : Int) := by omega
            have ap1 : (p2 : Int) < (N2 : Int) := by omega
            clear hu hv hp2 hI
            by_cases huv : u = v ∧ un = vn
            · have huv' : (u == v && un == vn) = true := by simp [huv]
              have Hs := Lib.hid (HI.out.skip (keeps_neg (by omega) (by rw [U.out, V.out, huv.1, huv.2])))
              clear huv
              go_upto_region 11 with fail
              go_region
              all_goals
                go_wp2_with fail
                go_roundw
                case rel => exact ⟨kk, k2 + 1, dk, rfl, by go_num, by omega, by omega, Hs.out, fun i x hi => by simpa using Hrow2.out i x hi, by simpa using hgr2, fun B hB => by have := Hbr2.out B hB; first | exact this | exact below_drewN this _ | exact this.drew⟩
                case measure => simp [intOf]; omega
            · have huv' : (u == v && un == vn) = false := by simpa using huv
              have Hs := Lib.hid (HI.out.keep hm (keeps_pos (by
                rw [U.out, V.out]
                intro h; injection h with h1 h2; exact huv ⟨h1, h2⟩)))
              clear huv
              go_upto_region 11 with fail
              go_region
              all_goals
                go_wp2_with fail
                go_roundw
                case rel =>
                  refine ⟨kk + 1, k2 + 1, dk.setIfInBounds kk (u, un), by go_num, by go_num, by omega, by omega, ?_, ?_, by simpa using hgr2, fun B hB => ?_⟩
                  · have h := Hs.out
                    rw [U.out] at h
                    exact h
                  · have h := Hrow2.out.set (k := kk) (by simp; omega) (u, un)
                    rw [Array.toList_setIfInBounds]
                    exact fun i x hi => by simpa using h i x hi
                  · have h := Hbr2.out B hB
                    have h2 := (h.setCell (p := ⟨g, kk * 2, none⟩) hB (.int .i64 u)).setCell (p := ⟨g, kk * 2 + 1, none⟩) hB (.int .i64 un)
                    first | exact h2 | exact h2.drew | exact below_drewN h2 _
                case measure => simp [intOf]; omega
          · have hend : k + k2 = d.size := by have := HN2.out; have := Hn.out; omega
            have hrows : ∀ j, j < (n - kk) * 2 → (wr.cell? ⟨g, kk * 2 + j, none⟩).isSome = true ∧ wr.frozen? ⟨g, kk * 2 + j, none⟩ = false := fun j hj => by
              obtain ⟨m1, m2, m3, m4⟩ := Hrow2.out (kk + j / 2) dk[kk + j / 2]! (get_list dk _ (by omega))
              rcases Nat.mod_two_eq_zero_or_one j with e | e
              · rw [show (kk + j / 2) * 2 = kk * 2 + j by omega] at m1 m3
                exact ⟨by rw [m1]; rfl, m3⟩
              · rw [show (kk + j / 2) * 2 + 1 = kk * 2 + j by omega] at m2 m4
                exact ⟨by rw [m2]; rfl, m4⟩
            have hcl : ∀ ty, (Builtin.clear_ #[42] ty #[.slice (some ⟨g, kk * 2, none⟩) (n - kk) (cap - kk)]).run Try.prog wr = .ok (.tuple #[]) (wr.setCells g (kk * 2) (List.replicate ((n - kk) * 2) (.int .i64 0))) :=
              fun ty => run_clear_ids wr ty g (kk * 2) (n - kk) (cap - kk) (by omega) (fun j hj => (hrows j hj).1) (fun j hj => (hrows j hj).2)
            have nk2 : ¬ (k2 : Int) < (N2 : Int) := by omega
            have kc : ¬ cap = kk := by omega
            have kc2 : (kk : Int) ≤ (cap : Int) := by omega
            have kc3 : (kk : Int) ≤ (n : Int) := by omega
            have kc4 : (n : Int) ≤ (cap : Int) := by omega
            clear hrows f0 f1 f2 f3 hI
            go_wp2_with fail
            go_ret
            have hI2 := HI.out
            rw [hend] at hI2
            have hlen : (compactUpTo d n).length = kk := by rw [Hn.out]; exact hI2.len
            refine ⟨kk, rfl, by omega, ?_, fun B hB => ?_⟩
            · refine (rowAt_setCells (k := kk) Hrow2.out (Nat.le_refl _)).ids hlen (by omega) (fun i x hi => ?_) (fun x hx => Hwf.out x (Hmem.out x hx))
              have hik : i < kk := by rw [← hlen]; exact (List.getElem?_eq_some_iff.1 hi).1
              rw [List.getElem?_take, if_pos hik, get_list dk i (by omega)]
              have h := hI2.low i hik
              rw [← Hn.out, hi] at h
              exact h.symm
            · exact below_setCells hB _ _ (Hbr2.out B hB)
      · have hd' : (r == r2 && n1 == n2) = false := by simpa using hdup
        have Hpos := Lib.hid (show Go.Lib.keeps d k = true from keeps_pos (by
          rw [show k - 1 = p by have := P.out; omega, X.out, Y.out]
          intro h; injection h with h1 h2; exact hdup ⟨h1, h2⟩))
        clear hdup
        go_upto_region 6 with fail
        go_region
        all_goals
          go_wp2_with fail
          go_roundw
          case rel => exact ⟨k + 1, by omega, by omega, by go_num, fun j hj => by
            rcases Nat.lt_or_ge j k with h | h
            · exact Hall.out j h
            · rw [show j = k by omega]; exact Hpos.out, fun i x hi => by simpa using Hrow.out i x hi, by simpa using hgr, fun B hB => by have := Hbr.out B hB; first | exact this | exact below_drewN this _ | exact this.drew⟩
          case measure => simp [intOf]; omega
    · have hkn : k = n := by omega
      have hall : compactUpTo d n = d.toList := by
        rw [compactUpTo_all d n (fun j hj => Hall.out j (by omega)), Hn.out]
        exact range_map_get d
      have Hl := Lib.hid hall
      clear hall
      have nk : ¬ (k : Int) < (n : Int) := by omega
      go_wp2_with fail
      go_ret
      exact ⟨n, rfl, hcap, by rw [Hl.out]; exact Hrow.out.ids Hnl.out (by omega) (fun _ _ h => h) Hwf.out, Hbr.out⟩
end
end Go.Proofs.Ytpdfbkkhmfnnjaa

namespace Go.Proofs.Ytpdfbkkhmfnnjaa
open Go.RowKit
set_option linter.unusedVariables false
set_option linter.unusedSimpArgs false
set_option maxRecDepth 20000
attribute [local go_sem ↓] Go.wp_at_zero Go.wp_at_succ
attribute [local go_sem] World.cell?_alloc_some frozen_alloc_some
open Go.Sort Go.Lib

/-- Compacting what is in order leaves the set. -/
theorem compact_sorted {l : List IdP} (h : l.Pairwise fun x y => ¬ idLt y x) : compactUpTo l.toArray l.length = idSet l := by
  have key : ∀ m, m ≤ l.length → Asc (compactUpTo l.toArray m) ∧ (∀ x, x ∈ compactUpTo l.toArray m ↔ x ∈ l.take m) := by
    intro m
    induction m with
    | zero => intro _; exact ⟨by simp [compactUpTo], fun x => by simp [compactUpTo]⟩
    | succ m ih =>
      intro hm
      obtain ⟨h1, h2⟩ := ih (by omega)
      have hget : l.toArray[m]! = l[m] := by simp [show m < l.length by omega]
      rw [compactUpTo_succ, List.take_add_one, List.getElem?_eq_getElem (by omega)]
      simp only [Option.toList]
      by_cases hk : Go.Lib.keeps l.toArray m = true
      · rw [if_pos hk, hget]
        refine ⟨List.pairwise_append.2 ⟨h1, by simp, fun a ha b hb => ?_⟩, fun x => by rw [List.mem_append, List.mem_append, h2]⟩
        simp at hb
        subst hb
        obtain ⟨i, hi, rfl⟩ := List.getElem_of_mem ((h2 a).1 ha)
        rw [List.length_take] at hi
        rw [List.getElem_take]
        have him : i < m := by omega
        have hm0 : m ≠ 0 := by omega
        have hne : l[m] ≠ l[m - 1] := by
          have := of_decide_eq_true hk
          rcases this with h | h
          · exact absurd h hm0
          · rw [hget] at h
            have e : l.toArray[m - 1]! = l[m - 1] := by simp [show m - 1 < l.length by omega]
            rw [e] at h
            exact h
        have s1 : ∀ j, (hj : j < m) → ¬ idLt l[m] l[j] := fun j hj => List.pairwise_iff_getElem.1 h j m (by omega) (by omega) hj
        have last : idLt l[m - 1] l[m] := by
          rcases idLt_total l[m - 1] l[m] with h | h | h
          · exact h
          · exact absurd h.symm hne
          · exact absurd h (s1 (m - 1) (by omega))
        by_cases e : i = m - 1
        · subst e; exact last
        · have s2 := List.pairwise_iff_getElem.1 h i (m - 1) (by omega) (by omega) (by omega)
          unfold idLt at *
          omega
      · rw [if_neg hk]
        simp only [List.append_nil]
        refine ⟨h1, fun x => ?_⟩
        rw [h2]
        have hk' := of_decide_eq_false (Bool.not_eq_true _ ▸ hk : Go.Lib.keeps l.toArray m = false)
        have hm0 : m ≠ 0 := fun e => hk' (.inl e)
        have he : l[m] = l[m - 1] := by
          have h := fun h => hk' (.inr h)
          rw [hget] at h
          have e : l.toArray[m - 1]! = l[m - 1] := by simp [show m - 1 < l.length by omega]
          rw [e] at h
          exact Decidable.not_not.1 h
        have hmem : l[m] ∈ l.take m := by
          rw [he, List.mem_take_iff_getElem]
          exact ⟨m - 1, by omega, rfl⟩
        simp only [List.mem_append, List.mem_singleton]
        exact ⟨.inl, fun h => h.elim id fun e => e ▸ hmem⟩
  obtain ⟨h1, h2⟩ := key l.length (Nat.le_refl _)
  exact idSet_eq h1 fun x => by rw [h2, List.take_length]

/-- The slice lies in blocks from b on. -/
def Fresh (b : Nat) (A : Option Addr) : Prop := ∀ ad, A = some ad → ad.spot = none ∧ b ≤ ad.block
theorem Fresh.mono {b b' : Nat} {A : Option Addr} (h : Fresh b A) (hb : b' ≤ b) : Fresh b' A := fun ad e => ⟨(h ad e).1, Nat.le_trans hb (h ad e).2⟩
theorem IdsAt.far {w : World} {A : Option Addr} {m b : Nat} {l : List IdP} (h : IdsAt w A m l) (hf : Fresh b A) {p : Addr} (hp : p.block < b) (v : Value) : IdsAt (w.setCell p v) A m l :=
  ⟨h.1, h.2.1, fun i x hi => by
    obtain ⟨w1, w2, g, o, e, h1, h2⟩ := h.2.2 i x hi
    have hb := (hf _ e).2
    simp only at hb
    exact ⟨w1, w2, g, o, e, cell_far h1 (by simp only; omega), cell_far h2 (by simp only; omega)⟩⟩
theorem idinfo : ∃ i, Try.prog.info? 26 = some i ∧ i.zero = some (.agg #[.int .i64 0, .int .i64 0]) ∧ i.size = 2 ∧ i.bytes = 16 := by
  have h : (Try.prog.info? 26).map (fun i => (i.zero, i.size, i.bytes)) = some (some (.agg #[.int .i64 0, .int .i64 0]), 2, 16) := by kernel_rfl
  exact info_parts h

set_option maxHeartbeats 1000000 in
theorem set_any (A : Option Addr) (m c : Nat) (l : List IdP) (w : World) (h1 : IdsAt w A m l) (hm : m ≤ 1000000) (hsp : ∀ ad, A = some ad → ad.spot = none) :
    Calls Try.prog 37 #[.slice A m c] w
      fun e w' => ∃ A' c', e = .returned (.slice A' (idSet l).length c') ∧ (idSet l).length ≤ c' ∧ IdsAt w' A' (idSet l).length (idSet l) ∧ Fresh w.heap.size A' ∧ Below w.heap.size w w' := by
  obtain ⟨i0, hi, hz0, hz1, hz2⟩ := idinfo
  cases A with
  | none =>
    have hl : l = [] := by
      cases l with
      | nil => rfl
      | cons x l =>
        obtain ⟨_, _, b, o, e, _⟩ := h1.2.2 0 x rfl
        cases e
    subst hl
    obtain rfl : m = 0 := h1.1
    have hcl := fun W => AnyE.slices_Clone_nil Try.cloneIds 0 c W
    have hso := fun W => AnyF.slices_SortFunc_none (P := Try.prog) (ρ := Try.sortIds_ren) { Try.sortIds with } none 0 (.func (.func 43) #[] #[]) W
    change ∀ W, Calls Try.prog 66 _ _ _ at hcl
    change ∀ W, Calls Try.prog 67 _ _ _ at hso
    have hco : ∀ W, Calls Try.prog 68 #[.slice none 0 0] W fun e w' => e = .returned (.slice none 0 0) ∧ w' = W := fun W => by
      go_enter Try.func68, Try.ntmps68
      go_wp2_with fail
      go_ret
      exact ⟨rfl, rfl⟩
    rw [show idSet [] = [] from rfl]
    clear h1 hm hsp
    go_enter Try.func37, Try.ntmps37
    go_wp2_with (first | (go_at_call 66; refine (hcl _).mono ?_; rintro e w1 ⟨rfl, rfl⟩) | (go_at_call 67; refine (hso _).mono ?_; rintro e w1 ⟨rfl, rfl⟩) | (go_at_call 68; refine (hco _).mono ?_; rintro e w1 ⟨rfl, rfl⟩))
    go_ret
    exact ⟨none, 0, rfl, Nat.le_refl _, IdsAt.nil, fun ad h => (by cases h), Below.refl _ _⟩
  | some ad =>
    obtain ⟨b, o, sp⟩ := ad
    obtain rfl : sp = none := hsp _ rfl
    have hlm := h1.1
    have hwf := h1.wf
    have hcl : ∀ W, Below w.heap.size w W → Calls Try.prog 66 #[.slice (some ⟨b, o, none⟩) m c] W fun e w' => ∃ g cap, e = .returned (.slice (some ⟨g, 0, none⟩) m cap) ∧ W.heap.size ≤ g ∧ g < w'.heap.size ∧ m ≤ cap ∧ cap ≤ maxLen ∧ RowAt w' g l ∧ Below W.heap.size W w' := fun W hb => by
      have h := AnyE.slices_Clone Try.cloneIds i0 _ 2 16 hi hz0 hz1 hz2 rfl (by decide) Try.sizeOf26 b o m c (flat2 l) W (by rw [flat2_length, hlm]) h1.2.1 (by omega) (fun j u hj => (h1.keep hb).cells hj) flat2_one
      change Calls Try.prog 66 _ _ _ at h
      refine h.mono fun e w' ⟨v, he, hown, hne, hbw⟩ => ?_
      obtain ⟨g, cap, rfl, hg1, hg2, hn, hcm, _, hr⟩ := row_of_own hown hne
      exact ⟨g, cap, he, hg1, hg2, hn, hcm, hr, hbw⟩
    have hso : ∀ g cap W, RowAt W g l → g < W.heap.size → Calls Try.prog 67 #[.slice (some ⟨g, 0, none⟩) m cap, .func (.func 43) #[] #[]] W
        fun e w' => e = .returned (.tuple #[]) ∧ RowAt w' g (idSort l) ∧ g < w'.heap.size ∧ ∀ B, B ≤ g → Below B W w' := fun g cap W hr hg => by
      have h := sort_row g cap l W hr hg (by omega)
      rwa [← hlm] at h
    have hco : ∀ g cap W, RowAt W g (idSort l) → g < W.heap.size → m ≤ cap → cap ≤ maxLen → Calls Try.prog 68 #[.slice (some ⟨g, 0, none⟩) m cap] W
        fun e w' => ∃ k, e = .returned (.slice (some ⟨g, 0, none⟩) k cap) ∧ k ≤ cap ∧ IdsAt w' (some ⟨g, 0, none⟩) k (idSet l) ∧ ∀ B, B ≤ g → Below B W w' := fun g cap W hr hg hmc hcm => by
      have hsz : (idSort l).toArray.size = m := by simp [idSort_length, hlm]
      have h := compact_any g cap (idSort l).toArray W (by simpa using hr) hg (by omega) hcm (by omega) (fun x hx => hwf x (mem_idSort.1 (by simpa using hx)))
      rw [hsz] at h
      have he : compactUpTo (idSort l).toArray m = idSet l := by
        rw [hlm, ← idSort_length l, compact_sorted (idSort_pairwise l)]
        exact idSet_congr fun x => mem_idSort
      rw [he] at h
      exact h
    have Hcl := Lib.hid hcl
    have Hso := Lib.hid hso
    have Hco := Lib.hid hco
    clear hcl hso hco h1 hm hsp hwf hlm hi hz0 hz1 hz2
    go_enter Try.func37, Try.ntmps37
    go_wp2_with (first | (go_at_call 66; refine (Hcl.out _ (Below.refl _ _)).mono ?_; rintro e w1 ⟨g, cap, rfl, hg1, hg2, hmc, hcm, hr, hb1⟩; have R1 := Lib.hid hr; clear hr) | (go_at_call 67; refine (Hso.out _ _ _ R1.out hg2).mono ?_; rintro e w2 ⟨rfl, hr2, hg3, hb2⟩; have R2 := Lib.hid hr2; have hb2' := hb2 w.heap.size (by omega); clear hr2 hb2) | (go_at_call 68; refine (Hco.out _ _ _ R2.out hg3 hmc hcm).mono ?_; rintro e w3 ⟨k, rfl, hkc, hI, hb3⟩; have I3 := Lib.hid hI; have hb3' := hb3 w.heap.size (by omega); clear hI hb3))
    go_ret
    have hk : k = (idSet l).length := I3.out.1
    subst hk
    exact ⟨_, cap, rfl, hkc, I3.out, fun ad h => (by cases h; exact ⟨rfl, hg1⟩), (hb1.trans hb2').trans hb3'⟩
end Go.Proofs.Ytpdfbkkhmfnnjaa
