/- The walk of the law BallotRow (package stonecroplaw08). -/
import Derived.Test.YtdmbpndplflebaaBallotLaw
namespace Go.Proofs.Ytdmbpndplflebaa
open Go.RowKit
set_option linter.unusedVariables false
set_option linter.unusedSimpArgs false
attribute [local go_sem ↓] Go.wp_at_zero Go.wp_at_succ
attribute [local go_sem] World.cell?_alloc_some frozen_alloc_some
attribute [local go_sem] lt2 lt3 lt4 lt5
attribute [local simp] lt2 lt3 lt4 lt5

theorem next_row (a b by_ : Int) (w : World) (h0 : 0 ≤ a) (h1 : a ≤ 1000) (h2 : 0 ≤ by_) (h3 : by_ < 7) :
    Calls Try.prog 15 #[.agg #[.int .i64 a, .int .i64 b], .int .i64 by_] w (Gives w (.tuple #[.agg #[.int .i64 (a + 1), .int .i64 by_], .bool true])) := by
  have hw : wrap64 (a + 1) = a + 1 := by unfold wrap64; omega
  have ok : nextOk a by_ = true := by rw [nextOk, hw]; exact rightB_yes (by omega) (by omega) h2 h3
  have h := next_any a b by_ w
  rw [ok, show nextR a by_ = a + 1 by simp [nextR, ok, hw], show nextBy a by_ = by_ by simp [nextBy, ok]] at h
  exact h
theorem less_yes (a b c d : Int) (w : World) (h : a < c) :
    Calls Try.prog 14 #[.agg #[.int .i64 a, .int .i64 b], .agg #[.int .i64 c, .int .i64 d]] w (Gives w (.bool true)) := by
  have hl := less_any a b c d w
  rw [lessB_iff.2 (.inl h)] at hl
  exact hl
theorem right_yes (a b : Int) (w : World) (h0 : 0 ≤ a) (h1 : a ≤ 1000) (h2 : 0 ≤ b) (h3 : b < 7) :
    Calls Try.prog 16 #[.agg #[.int .i64 a, .int .i64 b]] w (Gives w (.bool true)) := by
  have hl := right_any a b w
  rw [rightB_yes h0 (by omega) h2 h3] at hl
  exact hl

set_option maxHeartbeats 2000000 in
theorem row_walk (f : Int) (A : Option Addr) (len cap : Nat) (zs : List Int) (w : World) (wf : (Lit.int .u8 f).wf = true) (hr : Ints .u8 w A len zs) :
    Calls Try.prog 4 #[.int .u8 f, .slice A len cap] w (Gives w (.bool true)) := by
  have f1 := (wf_u8 wf).1
  have f2 := (wf_u8 wf).2
  have f3 : 0 ≤ f % 7 ∧ f % 7 < 7 := by omega
  obtain ⟨f4, f5⟩ := f3
  by_cases hlen : 60 < len
  · go_enter Try.func4, Try.ntmps4
    go_wp2_with (go_at_call 17; refine (awake08 _).mono ?_; rintro e w1 ⟨rfl, hbw1⟩; obtain ⟨hcw1, hfw1⟩ := keeps hbw1; have hzw1 := hbw1.size; (try simp at hzw1); clear hcw1 hfw1)
    go_ret
    exact ⟨rfl, by ((repeat' first | with_reducible exact Below.refl _ _ | with_reducible assumption | with_reducible refine Below.alloc ?_ ?_ _ | with_reducible refine Below.setCell ?_ ?_ _ | with_reducible apply Below.drew | with_reducible apply below_drewN | with_reducible refine below_call ?_ (by with_reducible assumption) ?_) <;> (first | omega | (simp; done) | (simp; omega) | (simp at *; omega)))⟩
  have hl60 : len ≤ 60 := by omega
  go_enter Try.func4, Try.ntmps4
  go_wp2_with (go_at_call 18; refine (first_any _ _).mono ?_; rintro e w1 ⟨rfl, hbw1⟩; have hzw1 := hbw1.size)
  go_loopw [6, 7, 8] (fun i s7 s8 wr => ∃ (k : Nat) (y : Int), k ≤ len ∧ i = .int .i64 k ∧ 0 ≤ y ∧ y < 7 ∧ Below w.heap.size w wr ∧ w1.heap.size < wr.heap.size ∧
      wr.cell? ⟨w1.heap.size, 0, none⟩ = some (.int .i64 k) ∧ wr.cell? ⟨w1.heap.size, 1, none⟩ = some (.int .i64 y) ∧ wr.frozen? ⟨w1.heap.size, 0, none⟩ = false ∧ wr.frozen? ⟨w1.heap.size, 1, none⟩ = false) (fun i _ _ _ => len - (intOf i).toNat)
  case atStart =>
    exact ⟨0, f % 7, Nat.zero_le _, rfl, f4, f5, by ((repeat' first | with_reducible exact Below.refl _ _ | with_reducible assumption | with_reducible refine Below.alloc ?_ ?_ _ | with_reducible refine Below.setCell ?_ ?_ _ | with_reducible apply Below.drew | with_reducible apply below_drewN | with_reducible refine below_call ?_ (by with_reducible assumption) ?_) <;> (first | omega | (simp; done) | (simp; omega) | (simp at *; omega))), by simp, by simp [go_sem], by simp [go_sem], by simp [go_sem], by simp [go_sem]⟩
  case round =>
    obtain ⟨k, y, hk, rfl, hy0, hy1, hbr, hzr, c0, c1, g0, g1⟩ := hrel
    by_cases hlt : k < len
    · obtain ⟨ad, rfl, hcell, hwf⟩ := hr.2.2 k hlt
      obtain ⟨z, hz⟩ : ∃ z, z = zs.getD k 0 := ⟨_, rfl⟩
      rw [← hz] at hcell hwf
      clear hz
      have z1 := (wf_u8 hwf).1
      have z2 := (wf_u8 hwf).2
      have z3 : 0 ≤ z % 7 ∧ z % 7 < 7 := by omega
      obtain ⟨z4, z5⟩ := z3
      have z6 : IntKind.i64.wrap z = z := IntWalk.i64_in _ (by omega)
      have z7 : z.tmod 7 = z % 7 := Int.tmod_eq_emod_of_nonneg z1
      have z8 : IntKind.i64.wrap (z % 7) = z % 7 := IntWalk.i64_in _ (by omega)
      have hcr := (hbr.cell (World.block_lt_of_cell? _ _ hcell)).trans hcell
      have hlb := World.block_lt_of_cell? _ _ hcell
      have hkl : (0 : Int) ≤ (k : Int) := by omega
      have hkl2 : (k : Int) < (len : Int) := by omega
      go_upto_region 7 with fail
      go_cut [7, 8] (fun s7 s8 wx => ∃ G, s7 = .pointer (some ⟨G, 0, none⟩) ∧ s8 = .bool true ∧ wx.cell? ⟨G, 0, none⟩ = some (.int .i64 (k + 1)) ∧ wx.cell? ⟨G, 1, none⟩ = some (.int .i64 (z % 7)) ∧ w1.heap.size < G ∧ G < wx.heap.size ∧ Below w.heap.size w wx ∧
        wx.cell? ⟨w1.heap.size, 0, none⟩ = some (.int .i64 k) ∧ wx.cell? ⟨w1.heap.size, 1, none⟩ = some (.int .i64 y) ∧ wx.frozen? ⟨w1.heap.size, 0, none⟩ = false ∧ wx.frozen? ⟨w1.heap.size, 1, none⟩ = false)
      case first =>
        go_region_held3 (fun w' => w'.cell? ⟨w1.heap.size, 0, none⟩ = some (.int .i64 k) ∧ w'.cell? ⟨w1.heap.size, 1, none⟩ = some (.int .i64 y) ∧ w'.cell? (ad.add k) = some (.int .u8 z) ∧ w'.frozen? ⟨w1.heap.size, 0, none⟩ = false ∧ w'.frozen? ⟨w1.heap.size, 1, none⟩ = false)
          ((go_split_ands; (repeat' apply And.intro) <;> (first | with_reducible assumption | (exact cell_keep (by with_reducible assumption) (by first | with_reducible assumption | (simp [go_sem, *]; done))) | (exact cell_alloc (by with_reducible assumption)) | (exact frozen_keep (by with_reducible assumption) (by first | with_reducible assumption | (simp [go_sem, *]; done)) (by first | with_reducible assumption | (simp [go_sem, *]; done))) | (exact frozen_alloc (by with_reducible assumption) (by with_reducible assumption)) | (refine cell_restore (by with_reducible assumption) ?_; first | omega | (simp; omega)) | (refine frozen_restore (by with_reducible assumption) ?_; first | omega | (simp; omega)) | ((repeat with_reducible refine cell_far ?_ (by first | omega | (simp; omega))); first | with_reducible assumption | exact cell_keep (by with_reducible assumption) (by with_reducible assumption)) | (simp [go_sem, *]; done) | go_keep)))
          (first | (go_at_call 15; ((with_reducible refine (next_row _ _ _ _ (by omega) (by omega) (by omega) (by omega)).mono ?_); rintro e w2 ⟨rfl, hb⟩; have hz := hb.size; (try simp at hz); (first | (obtain ⟨q0, r0⟩ := new_keep hb 0 rfl) | (obtain ⟨q0, r0⟩ := new_keep_drew hb 0 rfl) | skip); (first | (obtain ⟨q1, r1⟩ := new_keep hb 1 rfl) | (obtain ⟨q1, r1⟩ := new_keep_drew hb 1 rfl) | skip))))
        all_goals
          go_wp2_with fail
          go_meet
          refine ⟨_, rfl, rfl, ?_⟩
          go_split_ands
          ((repeat' apply And.intro) <;> (first | with_reducible assumption | with_reducible rfl | omega | (simp; omega) | ((repeat' first | with_reducible exact Below.refl _ _ | with_reducible assumption | with_reducible refine Below.alloc ?_ ?_ _ | with_reducible refine Below.setCell ?_ ?_ _ | with_reducible apply Below.drew | with_reducible apply below_drewN | with_reducible refine below_call ?_ (by with_reducible assumption) ?_) <;> (first | omega | (simp; done) | (simp; omega) | (simp at *; omega))) | (exact cell_keep (by with_reducible assumption) (by first | with_reducible assumption | (simp [go_sem, *]; done))) | (exact cell_alloc (by with_reducible assumption)) | (exact frozen_keep (by with_reducible assumption) (by first | with_reducible assumption | (simp [go_sem, *]; done)) (by first | with_reducible assumption | (simp [go_sem, *]; done))) | (exact frozen_alloc (by with_reducible assumption) (by with_reducible assumption)) | (refine cell_restore (by with_reducible assumption) ?_; first | omega | (simp; omega)) | (refine frozen_restore (by with_reducible assumption) ?_; first | omega | (simp; omega)) | ((repeat with_reducible refine cell_far ?_ (by first | omega | (simp; omega))); first | with_reducible assumption | exact cell_keep (by with_reducible assumption) (by with_reducible assumption)) | (simp [go_sem, *]; done) | go_keep))
      case rest =>
        clear hbr hzr c0 c1 g0 g1 hcr
        obtain ⟨G, rfl, rfl, d0, d1, hG1, hG2, hbr, c0, c1, g0, g1⟩ := hcut
        have hcr := (hbr.cell (World.block_lt_of_cell? _ _ hcell)).trans hcell
        go_upto_region 8 with fail
        go_cut [59] (fun s59 wx => s59 = .bool false ∧ wx.cell? ⟨G, 0, none⟩ = some (.int .i64 (k + 1)) ∧ wx.cell? ⟨G, 1, none⟩ = some (.int .i64 (z % 7)) ∧ G < wx.heap.size ∧ Below w.heap.size w wx ∧
          wx.cell? ⟨w1.heap.size, 0, none⟩ = some (.int .i64 k) ∧ wx.cell? ⟨w1.heap.size, 1, none⟩ = some (.int .i64 y) ∧ wx.frozen? ⟨w1.heap.size, 0, none⟩ = false ∧ wx.frozen? ⟨w1.heap.size, 1, none⟩ = false)
        case first =>
          have k1 : IntKind.i64.wrap ((k : Int) + 1) = k + 1 := IntWalk.i64_in _ (by omega)
          go_region_held3 (fun w' => w'.cell? ⟨G, 0, none⟩ = some (.int .i64 (k + 1)) ∧ w'.cell? ⟨G, 1, none⟩ = some (.int .i64 (z % 7)) ∧ w'.cell? ⟨w1.heap.size, 0, none⟩ = some (.int .i64 k) ∧ w'.cell? ⟨w1.heap.size, 1, none⟩ = some (.int .i64 y) ∧ w'.cell? (ad.add k) = some (.int .u8 z) ∧ w'.frozen? ⟨w1.heap.size, 0, none⟩ = false ∧ w'.frozen? ⟨w1.heap.size, 1, none⟩ = false)
            ((go_split_ands; (repeat' apply And.intro) <;> (first | with_reducible assumption | (exact cell_keep (by with_reducible assumption) (by first | with_reducible assumption | (simp [go_sem, *]; done))) | (exact cell_alloc (by with_reducible assumption)) | (exact frozen_keep (by with_reducible assumption) (by first | with_reducible assumption | (simp [go_sem, *]; done)) (by first | with_reducible assumption | (simp [go_sem, *]; done))) | (exact frozen_alloc (by with_reducible assumption) (by with_reducible assumption)) | (refine cell_restore (by with_reducible assumption) ?_; first | omega | (simp; omega)) | (refine frozen_restore (by with_reducible assumption) ?_; first | omega | (simp; omega)) | ((repeat with_reducible refine cell_far ?_ (by first | omega | (simp; omega))); first | with_reducible assumption | exact cell_keep (by with_reducible assumption) (by with_reducible assumption)) | (simp [go_sem, *]; done) | go_keep)))
            (first | (go_at_call 14; ((with_reducible refine (less_yes _ _ _ _ _ (by omega)).mono ?_); rintro e w2 ⟨rfl, hb⟩; have hz := hb.size; (try simp at hz))))
          all_goals
            go_wp2_with fail
            go_meet
            refine ⟨rfl, ?_⟩
            go_split_ands
            ((repeat' apply And.intro) <;> (first | with_reducible assumption | with_reducible rfl | omega | (simp; omega) | ((repeat' first | with_reducible exact Below.refl _ _ | with_reducible assumption | with_reducible refine Below.alloc ?_ ?_ _ | with_reducible refine Below.setCell ?_ ?_ _ | with_reducible apply Below.drew | with_reducible apply below_drewN | with_reducible refine below_call ?_ (by with_reducible assumption) ?_) <;> (first | omega | (simp; done) | (simp; omega) | (simp at *; omega))) | (exact cell_keep (by with_reducible assumption) (by first | with_reducible assumption | (simp [go_sem, *]; done))) | (exact cell_alloc (by with_reducible assumption)) | (exact frozen_keep (by with_reducible assumption) (by first | with_reducible assumption | (simp [go_sem, *]; done)) (by first | with_reducible assumption | (simp [go_sem, *]; done))) | (exact frozen_alloc (by with_reducible assumption) (by with_reducible assumption)) | (refine cell_restore (by with_reducible assumption) ?_; first | omega | (simp; omega)) | (refine frozen_restore (by with_reducible assumption) ?_; first | omega | (simp; omega)) | ((repeat with_reducible refine cell_far ?_ (by first | omega | (simp; omega))); first | with_reducible assumption | exact cell_keep (by with_reducible assumption) (by with_reducible assumption)) | (simp [go_sem, *]; done) | go_keep))
        case rest =>
          clear d0 d1 hG2 hbr hcr c0 c1 g0 g1
          obtain ⟨rfl, d0, d1, hG2, hbr, c0, c1, g0, g1⟩ := hcut
          go_wp2_with fail
          go_roundw
          case rel => exact ⟨k + 1, z % 7, by omega, by go_num, by omega, by omega, by ((repeat' first | with_reducible exact Below.refl _ _ | with_reducible assumption | with_reducible refine Below.alloc ?_ ?_ _ | with_reducible refine Below.setCell ?_ ?_ _ | with_reducible apply Below.drew | with_reducible apply below_drewN | with_reducible refine below_call ?_ (by with_reducible assumption) ?_) <;> (first | omega | (simp; done) | (simp; omega) | (simp at *; omega))), by simp; omega, by simp [go_sem, *], by simp [go_sem, *], by simp [go_sem, *], by simp [go_sem, *]⟩
          case measure => simp [intOf]; omega
    · have hkl : k = len := by omega
      have HKL := Lib.hid hkl
      clear hkl
      go_wp2_with (first
        | (go_at_call 16; ((with_reducible refine (right_yes _ _ _ (by omega) (by omega) (by omega) (by omega)).mono ?_); rintro e w2 ⟨rfl, hbw2⟩; have hzw2 := hbw2.size))
        | (go_at_call 17; ((with_reducible refine (awake08 _).mono ?_); rintro e w3 ⟨rfl, hbw3⟩; have hzw3 := hbw3.size)))
      go_ret
      exact ⟨rfl, by ((repeat' first | with_reducible exact Below.refl _ _ | with_reducible assumption | with_reducible refine Below.alloc ?_ ?_ _ | with_reducible refine Below.setCell ?_ ?_ _ | with_reducible apply Below.drew | with_reducible apply below_drewN | with_reducible refine below_call ?_ (by with_reducible assumption) ?_) <;> (first | omega | (simp; done) | (simp; omega) | (simp at *; omega)))⟩
end Go.Proofs.Ytdmbpndplflebaa
