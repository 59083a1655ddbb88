/- The walks of Pick (stonecropref01), of the example of package stonecroplaw02, and of its law CrcSums. -/
import Derived.Test.YtdmbpndplflebaaCrc
import Derived.Test.YtdmbpndplflebaaApp
import Derived.Lib.SlBytesConst
namespace Go.Proofs.Ytdmbpndplflebaa
open Go.RowKit
set_option linter.unusedVariables false
set_option linter.unusedSimpArgs false
attribute [local go_sem ↓] Go.wp_at_zero Go.wp_at_succ
attribute [local go_sem] World.cell?_alloc_some frozen_alloc_some
attribute [local go_sem] lt2 lt3 lt4 lt5
attribute [local simp] lt2 lt3 lt4 lt5

def pickV (k n : Int) : Int := if k.tmod n < 0 then k.tmod n + n else k.tmod n
theorem pickV_range {k n : Int} (h : 1 ≤ n) : 0 ≤ pickV k n ∧ pickV k n < n := by
  have h1 := Int.tmod_lt_of_pos k (show 0 < n by omega)
  have h2 : -n < k.tmod n := by
    rcases Int.le_total 0 k with hk | hk
    · have := Int.tmod_nonneg n hk; omega
    · have h3 := Int.neg_tmod (-k) n
      have h4 := Int.tmod_lt_of_pos (-k) (show 0 < n by omega)
      have h5 := Int.neg_tmod k n
      omega
  unfold pickV
  split <;> omega
set_option maxHeartbeats 1000000 in
theorem pick_any (k n : Int) (w : World) (h1 : 1 ≤ n) (h2 : n ≤ 1000000000000) (hk : (Lit.int .i64 k).wf = true) :
    Calls Try.prog 22 #[.int .i64 k, .int .i64 n] w (Gives w (.int .i64 (pickV k n))) := by
  have k1 := (wf_i64 hk).1
  have k2 := (wf_i64 hk).2
  have h3 := pickV_range (k := k) h1
  have hm := Int.tmod_lt_of_pos k (show 0 < n by omega)
  have hm2 : -n ≤ k.tmod n := by unfold pickV at h3; split at h3 <;> omega
  have hw : wrap64 (k.tmod n) = k.tmod n := by unfold wrap64; omega
  have hw2 : IntKind.i64.wrap (k.tmod n) = k.tmod n := IntWalk.i64_in _ (by omega)
  have hz : (n == 0) = false := by simp; omega
  go_enter Try.func22, Try.ntmps22
  by_cases hneg : k.tmod n < 0
  · go_wp2
    go_ret
    refine ⟨ret_int ?_, Below.refl _ _⟩
    unfold pickV
    rw [if_pos hneg]
  · go_wp2
    go_ret
    refine ⟨ret_int ?_, Below.refl _ _⟩
    unfold pickV
    rw [if_neg (by omega)]

theorem info_u8 : (Try.prog.info? 5).map (fun i => (i.zero, i.size, i.bytes)) = some (some (.int .u8 0), 1, 1) := by kernel_rfl
theorem crc_check : crc [49, 50, 51, 52, 53, 54, 55, 56, 57] = 3808858755 := by decide +kernel
set_option maxHeartbeats 1000000 in
theorem awake02 (w : World) : Calls Try.prog 19 #[] w (Gives w (.bool true)) := by
  have kc := fun (w : World) (C : Array Value) (n c : Nat) => Lib.run_convert_bytes_const (P := Try.prog) w 30 5 C n c Try.underlying30 Try.underlying5
  have hcrc : crc [49, 50, 51, 52, 53, 54, 55, 56, 57] = 3808858755 := crc_check
  have Hcrc := Lib.hid hcrc
  clear hcrc
  go_enter Try.func19, Try.ntmps19
  go_wp2_with (fail)
  refine (sum_any _ _ _ [[49, 50, 51, 52, 53, 54, 55, 56, 57]] _ (texts1 (B := some ⟨w.heap.size, 0, none⟩) (m := 9) (c := 9) ?_ ?_)).mono ?_
  · simp [go_sem]
  · exact Bytes.of_block (e := 5) (fr := (9, 10)) (l := [49, 50, 51, 52, 53, 54, 55, 56, 57]) ((Below.heap_alloc _ _ _ (by simp)).trans (heap_alloc_new _ _)) (by decide) (by decide)
  rintro e w1 ⟨rfl, hbw1⟩
  rw [show List.flatten [[49, 50, 51, 52, 53, 54, 55, 56, 57]] = [49, 50, 51, 52, 53, 54, 55, 56, 57] from rfl, Hcrc.out]
  go_wp2
  go_ret
  exact ⟨rfl, by ((repeat' first | with_reducible exact Below.refl _ _ | with_reducible assumption | with_reducible refine Below.alloc ?_ ?_ _ | with_reducible refine Below.setCell ?_ ?_ _ | with_reducible apply Below.drew | with_reducible apply below_drewN | with_reducible refine below_call ?_ (by with_reducible assumption) ?_) <;> (first | omega | (simp; done) | (simp; omega) | (simp at *; omega)))⟩

set_option maxHeartbeats 2000000 in
theorem sums_walk (A : Option Addr) (n cap : Nat) (ls : List (List Nat)) (w : World) (hp : Texts w A n ls) :
    Calls Try.prog 5 #[.slice A n cap] w (Gives w (.bool true)) := by
  have hn1 := hp.1
  have Hn := Lib.hid hn1
  clear hn1
  by_cases hlen : 20 < n
  · go_enter Try.func5, Try.ntmps5
    go_wp2_with (go_at_call 19; refine (awake02 _).mono ?_; rintro e w1 ⟨rfl, hbw1⟩; obtain ⟨hcw1, hfw1⟩ := keeps hbw1; have hzw1 := hbw1.size; (try simp at hzw1); clear hcw1 hfw1)
    go_ret
    exact ⟨rfl, by ((repeat' first | with_reducible exact Below.refl _ _ | with_reducible assumption | with_reducible refine Below.alloc ?_ ?_ _ | with_reducible refine Below.setCell ?_ ?_ _ | with_reducible apply Below.drew | with_reducible apply below_drewN | with_reducible refine below_call ?_ (by with_reducible assumption) ?_) <;> (first | omega | (simp; done) | (simp; omega) | (simp at *; omega)))⟩
  have hl20 : n ≤ 20 := by omega
  obtain ⟨i0, hi, hz0, hz1, hz2⟩ := info_parts info_u8
  go_enter Try.func5, Try.ntmps5
  go_wp2_with fail
  go_loopw [2, 3, 4] (fun s2 v s4 wr => ∃ k : Nat, k ≤ n ∧ s4 = .int .i64 k ∧ OwnB wr w.heap.size 5 v (ls.take k).flatten ∧ (ls.take k).flatten.length ≤ 200 * k ∧ Below w.heap.size w wr) (fun _ _ s4 _ => n - (intOf s4).toNat)
  case atStart => exact ⟨0, by omega, rfl, OwnB.nil_ _ _ _, by simp, Below.refl _ _⟩
  case round =>
    obtain ⟨k, hk, rfl, hown, hlk, hbr⟩ := hrel
    have hzr := hbr.size
    by_cases hlt : k < n
    · have hkl : k < ls.length := by have := Hn.out; omega
      obtain ⟨ad, B, m, c, rfl, hcell, hby⟩ := (hp.keep hbr).2.2 k ls[k] (List.getElem?_eq_getElem hkl)
      have hm2 := hby.2.1
      unfold maxLen at hm2
      by_cases hm : 200 < m
      · clear hown hlk
        go_wp2_with (go_at_call 19; refine (awake02 _).mono ?_; rintro e w1 ⟨rfl, hbw1⟩; obtain ⟨hcw1, hfw1⟩ := keeps hbw1; have hzw1 := hbw1.size; (try simp at hzw1); clear hcw1 hfw1)
        go_ret
        exact ⟨rfl, by ((repeat' first | with_reducible exact Below.refl _ _ | with_reducible assumption | with_reducible refine Below.alloc ?_ ?_ _ | with_reducible refine Below.setCell ?_ ?_ _ | with_reducible apply Below.drew | with_reducible apply below_drewN | with_reducible refine below_call ?_ (by with_reducible assumption) ?_) <;> (first | omega | (simp; done) | (simp; omega) | (simp at *; omega)))⟩
      · have hm200 : m ≤ 200 := by omega
        have hnext : (ls.take (k + 1)).flatten = (ls.take k).flatten ++ ls[k] := by
          rw [List.take_succ_eq_append_getElem hkl, List.flatten_append]
          simp
        have Hnext := Lib.hid hnext
        clear hnext
        have hml := hby.1
        have Hml := Lib.hid hml
        clear hml
        generalize (ls.take k).flatten = l at *
        generalize ls[k] = l2 at *
        go_wp2_with (at_builtin; refine wpList_app _ rfl (.tmp 22) (.tmp 26) 30 rfl _ 5 i0 _ 1 1 Try.underlying30 hi hz0 hz1 hz2 rfl (by omega) _ _ _ rfl hown.1 _ _ _ _ rfl (Src.of_bytes hby) ?h63 ?hby ?hbase ?_; (case h63 => (unfold maxLen; omega)); (case hby => omega); (case hbase => first | omega | (simp; omega)); intro v' w1 hownw1 hgroww1 hatw1 holdw1)
        have hown2 : OwnB w1 w.heap.size 5 v' (l ++ l2) :=
          ⟨by rw [List.length_append, ← Hml.out, u8s_append]; exact hownw1, fun c hc => by
            rcases List.mem_append.1 hc with h | h
            · exact hown.2 c h
            · exact hby.lt c h⟩
        have hb1 : Below w.heap.size w w1 := below_app hbr hown.1 hgroww1 (Nat.le_refl _) hzr
        clear hownw1 hgroww1 hatw1 holdw1
        go_roundw
        case rel => exact ⟨k + 1, by omega, by go_num, by rw [Hnext.out]; exact hown2, by rw [Hnext.out, List.length_append, ← Hml.out]; omega, hb1⟩
        case measure => simp [intOf]; omega
    · have hfull : ls.take k = ls := List.take_of_length_le (by have := Hn.out; omega)
      have hall : ((ls.take k).flatten) = ls.flatten := by rw [hfull]
      rw [hall] at hown
      obtain ⟨B, c, rfl, _, _⟩ := hown.form
      clear hall hlk hfull
      obtain ⟨_, hle, hby⟩ := hown.bytes
      have hsum : ∀ W, Below w.heap.size w W → Calls Try.prog 20 #[.slice A n cap] W (Gives W (.int .u32 (crc ls.flatten))) := fun W hb => sum_any A n cap ls W (hp.keep hb)
      generalize hL : ls.flatten = L at *
      have HL := Lib.hid hL
      clear hL
      go_wp2_with (first
        | (go_at_call 20; (with_reducible refine (hsum _ ?hbel).mono ?_); (case hbel => ((repeat' first | with_reducible exact Below.refl _ _ | with_reducible assumption | with_reducible refine Below.alloc ?_ ?_ _ | with_reducible refine Below.setCell ?_ ?_ _ | with_reducible apply Below.drew | with_reducible apply below_drewN | with_reducible refine below_call ?_ (by with_reducible assumption) ?_) <;> (first | omega | (simp; done) | (simp; omega) | (simp at *; omega)))); rintro e w1 ⟨rfl, hbw1⟩; have hzw1 := hbw1.size; (try simp at hzw1))
        | (go_at_call 20; (with_reducible refine (sum_any _ _ _ [L] _ (texts1 (B := B) (m := L.length) (c := c) ?hcell (hby.keep ?hbel))).mono ?_); (case hcell => (simp [go_sem]; done)); (case hbel => ((repeat' first | with_reducible exact Below.refl _ _ | with_reducible assumption | with_reducible refine Below.alloc ?_ ?_ _ | with_reducible refine Below.setCell ?_ ?_ _ | with_reducible apply Below.drew | with_reducible apply below_drewN | with_reducible refine below_call ?_ (by with_reducible assumption) ?_) <;> (first | omega | (simp; done) | (simp; omega) | (simp at *; omega)))); rintro e w1 ⟨rfl, hbw1⟩; have hzw1 := hbw1.size; (try simp at hzw1))
        | (go_at_call 21; (with_reducible refine (refsum_any _ _ _ L _ (hby.keep ?hbel)).mono ?_); (case hbel => ((repeat' first | with_reducible exact Below.refl _ _ | with_reducible assumption | with_reducible refine Below.alloc ?_ ?_ _ | with_reducible refine Below.setCell ?_ ?_ _ | with_reducible apply Below.drew | with_reducible apply below_drewN | with_reducible refine below_call ?_ (by with_reducible assumption) ?_) <;> (first | omega | (simp; done) | (simp; omega) | (simp at *; omega)))); rintro e w1 ⟨rfl, hbw1⟩; have hzw1 := hbw1.size; (try simp at hzw1))
        | (go_at_call 19; (with_reducible refine (awake02 _).mono ?_); rintro e w1 ⟨rfl, hbw1⟩; have hzw1 := hbw1.size; (try simp at hzw1)))
      go_ret
      exact ⟨rfl, by ((repeat' first | with_reducible exact Below.refl _ _ | with_reducible assumption | with_reducible refine Below.alloc ?_ ?_ _ | with_reducible refine Below.setCell ?_ ?_ _ | with_reducible apply Below.drew | with_reducible apply below_drewN | with_reducible refine below_call ?_ (by with_reducible assumption) ?_) <;> (first | omega | (simp; done) | (simp; omega) | (simp at *; omega)))⟩
end Go.Proofs.Ytdmbpndplflebaa
