/- The walk of the law CrcParts (package stonecroplaw02). -/
import Derived.Test.YtdmbpndplflebaaCrcSums
namespace Go.Proofs.Ytdmbpndplflebaa
open Go.RowKit
set_option linter.unusedVariables false
set_option linter.unusedSimpArgs false
attribute [local go_sem ↓] Go.wp_at_zero Go.wp_at_succ
attribute [local go_sem] World.cell?_alloc_some frozen_alloc_some
attribute [local go_sem] lt2 lt3 lt4 lt5
attribute [local simp] lt2 lt3 lt4 lt5

set_option maxHeartbeats 4000000 in
theorem parts_walk (A : Option Addr) (n cap : Nat) (l : List Nat) (at_ again : Int) (w : World) (hp : Bytes w A n l) (hc : n ≤ cap) (hcm : cap ≤ maxLen)
    (h1 : (Lit.int .i64 at_).wf = true) (h2 : (Lit.int .i64 again).wf = true) :
    Calls Try.prog 8 #[.slice A n cap, .int .i64 at_, .int .i64 again] w (Gives w (.bool true)) := by
  unfold maxLen at hcm
  by_cases hlen : 1000 < n
  · go_enter Try.func8, Try.ntmps8
    go_wp2_with (go_at_call 19; refine (awake02 _).mono ?_; rintro e w1 ⟨rfl, hbw1⟩; obtain ⟨hcw1, hfw1⟩ := keeps hbw1; have hzw1 := hbw1.size; (try simp at hzw1); clear hcw1 hfw1)
    go_ret
    exact ⟨rfl, by ((repeat' first | with_reducible exact Below.refl _ _ | with_reducible assumption | with_reducible refine Below.alloc ?_ ?_ _ | with_reducible refine Below.setCell ?_ ?_ _ | with_reducible apply Below.drew | with_reducible apply below_drewN | with_reducible refine below_call ?_ (by with_reducible assumption) ?_) <;> (first | omega | (simp; done) | (simp; omega) | (simp at *; omega)))⟩
  have hl : n ≤ 1000 := by omega
  have hi := pickV_range (k := at_) (n := (n : Int) + 1) (by omega)
  obtain ⟨i, hiv⟩ := Int.eq_ofNat_of_zero_le hi.1
  have hin : i ≤ n := by omega
  have hk := pickV_range (k := again) (n := (i : Int) + 1) (by omega)
  obtain ⟨k, hkv⟩ := Int.eq_ofNat_of_zero_le hk.1
  have hki : k ≤ i := by omega
  have p1 : ∀ W, Calls Try.prog 22 #[.int .i64 at_, .int .i64 ((n : Int) + 1)] W (Gives W (.int .i64 (i : Int))) := fun W => by
    rw [← hiv]; exact pick_any _ _ W (by omega) (by omega) h1
  have p2 : ∀ W, Calls Try.prog 22 #[.int .i64 again, .int .i64 ((i : Int) + 1)] W (Gives W (.int .i64 (k : Int))) := fun W => by
    rw [← hkv]; exact pick_any _ _ W (by omega) (by omega) h2
  clear hi hiv hk hkv
  have hb1 : Bytes w A i (l.take i) := hp.cutTo hin
  have hb2 : Bytes w (if cap = i then A else A.map (·.add i)) (n - i) (l.drop i) := hp.cutFrom hin hc
  obtain ⟨B2, hB2⟩ : ∃ B2, (if cap = i then A else Option.map (fun x => x.add i) A) = B2 := ⟨_, rfl⟩
  have e1 : [l.take i, l.drop i].flatten = l := by simp
  have hb3 : Bytes w A k (l.take k) := hp.cutTo (by omega)
  have hb4 : Bytes w (if cap = k then A else A.map (·.add k)) (i - k) ((l.take i).drop k) := by
    have := hb1.cutFrom (k := k) (cap := cap) hki (by omega)
    exact this
  have e2 : [l.take k, (l.take i).drop k, [], l.drop i].flatten = l := by
    have : l.take k = (l.take i).take k := by rw [List.take_take, Nat.min_eq_left hki]
    rw [this]
    simp [← List.append_assoc]
  obtain ⟨B4, hB4⟩ : ∃ B4, (if cap = k then A else Option.map (fun x => x.add k) A) = B4 := ⟨_, rfl⟩
  rw [hB2] at hb2
  rw [hB4] at hb4
  have s1 : ∀ W g, W.cell? ⟨g, 0, none⟩ = some (.slice A n cap) → Below w.heap.size w W → Calls Try.prog 20 #[.slice (some ⟨g, 0, none⟩) 1 1] W (Gives W (.int .u32 (crc l))) := fun W g hc hb => by
    have := sum_any (some ⟨g, 0, none⟩) 1 1 [l] W (texts1 hc (hp.keep hb))
    simpa using this
  have s2 : ∀ W g c0 c1, W.cell? ⟨g, 0, none⟩ = some (.slice A i c0) → W.cell? ⟨g, 1, none⟩ = some (.slice B2 (n - i) c1) → Below w.heap.size w W →
      Calls Try.prog 20 #[.slice (some ⟨g, 0, none⟩) 2 2] W (Gives W (.int .u32 (crc l))) := fun W g c0 c1 h0 h1 hb => by
    have := sum_any (some ⟨g, 0, none⟩) 2 2 _ W (texts2 h0 h1 (hb1.keep hb) (hb2.keep hb))
    rwa [e1] at this
  have s4 : ∀ W g c0 c1 c3, W.cell? ⟨g, 0, none⟩ = some (.slice A k c0) → W.cell? ⟨g, 1, none⟩ = some (.slice B4 (i - k) c1) → W.cell? ⟨g, 2, none⟩ = some (.slice none 0 0) → W.cell? ⟨g, 3, none⟩ = some (.slice B2 (n - i) c3) → Below w.heap.size w W →
      Calls Try.prog 20 #[.slice (some ⟨g, 0, none⟩) 4 4] W (Gives W (.int .u32 (crc l))) := fun W g c0 c1 c3 h0 h1 h2 h3 hb => by
    have := sum_any (some ⟨g, 0, none⟩) 4 4 _ W (texts4 h0 h1 h2 h3 (hb3.keep hb) (hb4.keep hb) Bytes.none_ (hb2.keep hb))
    rwa [e2] at this
  clear e1 e2 hb1 hb2 hb3 hb4 hp
  have j1 : (0 : Int) ≤ (i : Int) := by omega
  have j2 : (i : Int) ≤ (cap : Int) := by omega
  have j3 : (i : Int) ≤ (n : Int) := by omega
  have j4 : (0 : Int) ≤ (k : Int) := by omega
  have j5 : (k : Int) ≤ (cap : Int) := by omega
  have j6 : (k : Int) ≤ (i : Int) := by omega
  go_enter Try.func8, Try.ntmps8
  go_upto_region 5 with (first
    | (go_at_call 22; (with_reducible refine (p1 _).mono ?_); rintro e w1 ⟨rfl, hbw1⟩; have hzw1 := hbw1.size)
    | (go_at_call 22; (with_reducible refine (p2 _).mono ?_); rintro e w2 ⟨rfl, hbw2⟩; have hzw2 := hbw2.size))
  have hb2 : Below w.heap.size w w2 := by ((repeat' first | with_reducible exact Below.refl _ _ | with_reducible assumption | with_reducible refine Below.alloc ?_ ?_ _ | with_reducible refine Below.setCell ?_ ?_ _ | with_reducible apply Below.drew | with_reducible apply below_drewN | with_reducible refine below_call ?_ (by with_reducible assumption) ?_) <;> (first | omega | (simp; done) | (simp; omega) | (simp at *; omega)))
  go_cut [6] (fun s6 wx => s6 = .bool true ∧ Below w.heap.size w wx)
  case first =>
    go_region_held3 (fun w' => Below w.heap.size w w') ((go_split_ands; first | assumption | ((repeat' first | with_reducible exact Below.refl _ _ | with_reducible assumption | with_reducible refine Below.alloc ?_ ?_ _ | with_reducible refine Below.setCell ?_ ?_ _ | with_reducible apply Below.drew | with_reducible apply below_drewN | with_reducible refine below_call ?_ (by with_reducible assumption) ?_) <;> (first | omega | (simp; done) | (simp; omega) | (simp at *; omega)))))
      (first | (go_at_call 20; (((with_reducible refine (s2 _ _ cap (cap - i) ?hc0 ?hc1 ?hbel).mono ?_); (case hc0 => (simp [go_sem, *]; done)); (case hc1 => (simp [go_sem, *]; done)); (case hbel => first | assumption | ((repeat' first | with_reducible exact Below.refl _ _ | with_reducible assumption | with_reducible refine Below.alloc ?_ ?_ _ | with_reducible refine Below.setCell ?_ ?_ _ | with_reducible apply Below.drew | with_reducible apply below_drewN | with_reducible refine below_call ?_ (by with_reducible assumption) ?_) <;> (first | omega | (simp; done) | (simp; omega) | (simp at *; omega)))); rintro e w3 ⟨rfl, hbw3⟩; have hzw3 := hbw3.size; (try simp at hzw3); (first | (obtain ⟨q0, r0⟩ := new_keep hbw3 0 rfl) | (obtain ⟨q0, r0⟩ := new_keep_drew hbw3 0 rfl) | skip); (try simp at q0); (try simp at r0); (first | (have s0 := new_keep2 hbw3 0 rfl) | (have s0 := new_keep2_drew hbw3 0 rfl) | skip); (try simp at s0)))) | (go_at_call 20; (((with_reducible refine (s4 _ _ cap (cap - k) (cap - i) ?hc0 ?hc1 ?hc2 ?hc3 ?hbel).mono ?_); (case hc0 => (simp [go_sem, *]; done)); (case hc1 => (simp [go_sem, *]; done)); (case hc2 => (simp [go_sem, *]; done)); (case hc3 => (simp [go_sem, *]; done)); (case hbel => first | assumption | ((repeat' first | with_reducible exact Below.refl _ _ | with_reducible assumption | with_reducible refine Below.alloc ?_ ?_ _ | with_reducible refine Below.setCell ?_ ?_ _ | with_reducible apply Below.drew | with_reducible apply below_drewN | with_reducible refine below_call ?_ (by with_reducible assumption) ?_) <;> (first | omega | (simp; done) | (simp; omega) | (simp at *; omega)))); rintro e w3 ⟨rfl, hbw3⟩; have hzw3 := hbw3.size; (try simp at hzw3); (first | (obtain ⟨q0, r0⟩ := new_keep hbw3 0 rfl) | (obtain ⟨q0, r0⟩ := new_keep_drew hbw3 0 rfl) | skip); (try simp at q0); (try simp at r0); (first | (have s0 := new_keep2 hbw3 0 rfl) | (have s0 := new_keep2_drew hbw3 0 rfl) | skip); (try simp at s0)))) | (go_at_call 20; (((with_reducible refine (s1 _ _ ?hc0 ?hbel).mono ?_); (case hc0 => (simp [go_sem, *]; done)); (case hbel => first | assumption | ((repeat' first | with_reducible exact Below.refl _ _ | with_reducible assumption | with_reducible refine Below.alloc ?_ ?_ _ | with_reducible refine Below.setCell ?_ ?_ _ | with_reducible apply Below.drew | with_reducible apply below_drewN | with_reducible refine below_call ?_ (by with_reducible assumption) ?_) <;> (first | omega | (simp; done) | (simp; omega) | (simp at *; omega)))); rintro e w3 ⟨rfl, hbw3⟩; have hzw3 := hbw3.size; (try simp at hzw3); (first | (obtain ⟨q0, r0⟩ := new_keep hbw3 0 rfl) | (obtain ⟨q0, r0⟩ := new_keep_drew hbw3 0 rfl) | skip); (try simp at q0); (try simp at r0); (first | (have s0 := new_keep2 hbw3 0 rfl) | (have s0 := new_keep2_drew hbw3 0 rfl) | skip); (try simp at s0)))) | (go_at_call 19; (((with_reducible refine (awake02 _).mono ?_); rintro e w3 ⟨rfl, hbw3⟩; have hzw3 := hbw3.size; (try simp at hzw3); skip))))
    all_goals
      go_wp2_with fail
      go_meet
      refine ⟨by simp, ?_⟩
      go_split_ands
      first | assumption | ((repeat' first | with_reducible exact Below.refl _ _ | with_reducible assumption | with_reducible refine Below.alloc ?_ ?_ _ | with_reducible refine Below.setCell ?_ ?_ _ | with_reducible apply Below.drew | with_reducible apply below_drewN | with_reducible refine below_call ?_ (by with_reducible assumption) ?_) <;> (first | omega | (simp; done) | (simp; omega) | (simp at *; omega)))
  case rest =>
    obtain ⟨rfl, hbx⟩ := hcut
    go_wp2
    go_ret
    exact ⟨rfl, hbx⟩
end Go.Proofs.Ytdmbpndplflebaa
