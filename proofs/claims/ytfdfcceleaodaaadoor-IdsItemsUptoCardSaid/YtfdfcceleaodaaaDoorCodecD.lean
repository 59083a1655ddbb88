/- The walk of stonecropref03.Form: a list, and any item that is right. -/
import Derived.Test.YtfdfcceleaodaaaDoorCodecC
import Derived.Test.YtfdfcceleaodaaaDoorTreeB
namespace Go.Proofs.YtfdfcceleaodaaaDoor
open Go.RowKit
set_option linter.unusedVariables false
set_option linter.unusedSimpArgs false
set_option maxRecDepth 20000
attribute [local go_sem ↓] Go.wp_at_zero Go.wp_at_succ
attribute [local go_sem] World.cell?_alloc_some frozen_alloc_some
attribute [local go_sem] lt2 lt3 lt4 lt5
attribute [local simp] lt2 lt3 lt4 lt5

set_option maxHeartbeats 4000000 in
theorem reform_list (l : List Tree) (hsz : tsizes l ≤ 10000000)
    (ih : ∀ t ∈ l, ∀ v w, Holds w t v → Calls Tryd.prog 48 #[v] w (Makes w 5 (tform t)))
    (hlen : ∀ j, j ≤ l.length → (tforms (l.take j)).length ≤ 100000000) (hby : ∀ t ∈ l, ∀ c ∈ tform t, c < 256)
    (v : Value) (w : World) (ht : Holds w (.mk 2 0 ByteArray.empty l) v) :
    Calls Tryd.prog 48 #[v] w (Makes w 5 (2 :: (form l.length ++ tforms l))) := by
  have Ht := Lib.hid ht
  obtain ⟨A, m, c, rfl, hk, hn, hs, hm, hmc, hc, hel⟩ := ht.open_
  obtain ⟨i0, hi, hz0, hz1, hz2⟩ := info_parts info_u8
  have hml : m ≤ 10000000 := by have := tsizes_len l; omega
  have hr : ∀ W, Calls Tryd.prog 71 #[.int .u64 (m : Int)] W (Makes W 5 (form l.length)) := fun W => by rw [← hm]; exact refput_any m W (by omega)
  have hF := form_len (v := l.length) (by omega)
  have hFb := form_bytes (v := l.length) (by omega)
  have Ih := Lib.hid ih
  have Hm := Lib.hid hm
  have Hlen := Lib.hid hlen
  have Hby := Lib.hid hby
  clear hel ht ih hlen hby
  generalize form l.length = F at *
  have hc0 : IntKind.u8.wrap 2 = 2 := by decide
  have hc1 : IntKind.u64.wrap (m : Int) = (m : Int) := by rw [wrap_u64]; omega
  have hown0 := own_lit (w := w) (o := .cells #[.int .i64 2, .int .u64 ((0 : Nat) : Int), .string ByteArray.empty, .slice A m c] 26) (e := 5) (c := 2) (by decide)
  have hb0 := below_lit (w := w) (o := .cells #[.int .i64 2, .int .u64 ((0 : Nat) : Int), .string ByteArray.empty, .slice A m c] 26) (o2 := .cells #[.int .u8 ((2 : Nat) : Int)] 5)
  clear hm
  go_enter Tryd.func48, Tryd.ntmps48
  go_wp2_with fail
  refine (hr _).mono ?_
  rintro e w1 ⟨b, rfl, hown, hbw1⟩
  obtain ⟨A1, c1, rfl, _, _⟩ := hown.form
  have hown1 := hown0.keep hbw1
  have hbel := below_call hb0 hbw1 (by simp)
  have hz1' := hbel.size
  simp at hz1'
  have hj1 : ∀ c ∈ [2], c < 256 := by simp
  go_wp2_with (((at_builtin; go_loud (refine wpList_app _ rfl (.tmp 32) (.tmp 37) 36 rfl _ 5 i0 _ 1 1 Tryd.underlying36 hi hz0 hz1 hz2 rfl (by omega) _ _ _ rfl hown1.1 _ _ _ _ rfl (Src.of_bytes hown.bytes.2.2) ?h63 ?hby ?hbase ?_); (case h63 => (unfold maxLen; first | omega | (simp; done) | (simp; omega))); (case hby => first | omega | (simp; done) | (simp; omega)); (case hbase => first | omega | (simp; done) | (simp; omega)); intro v2 w2 hownw2 hgroww2 hatw2 holdw2)); have hown2 := OwnB.join (l := [2]) hownw2 hj1 hFb; have hb2 := below_app hbel hown1.1 hgroww2 (Nat.le_refl _) hz1')
  go_loopw [3, 4] (fun s3 s4 wr => ∃ j : Nat, j ≤ m ∧ s4 = .int .i64 j ∧ OwnB wr (w.heap.size + 1) 5 s3 ([2] ++ F ++ tforms (l.take j)) ∧ Below (w.heap.size + 1) (w.alloc (.cells #[.int .i64 2, .int .u64 ((0 : Nat) : Int), .string ByteArray.empty, .slice A m c] 26)) wr) (fun _ s4 _ => m - (intOf s4).toNat)
  case atStart => exact ⟨0, by omega, rfl, by simpa [tforms] using hown2, hb2⟩
  case round =>
    obtain ⟨j, hj, rfl, hownr, hbr⟩ := hrel
    have hbx := box_cell hbr 3 rfl
    have hzr := hbr.size
    simp at hzr
    by_cases hlt : j < m
    · have hjl : j < l.length := by have := Hm.out; omega
      obtain ⟨ad, u, rfl, hu, h4⟩ := Ht.out.elem (List.getElem?_eq_getElem hjl)
      have hbw := below_box hbr
      have hcall : ∀ W, Below wr.heap.size wr W → Calls Tryd.prog 48 #[u] W (Makes W 5 (tform l[j])) := fun W h => Ih.out l[j] (List.getElem_mem hjl) u W ((hu.keep hbw).keep h)
      obtain ⟨eb, eo, k', n', s', A', m', c', ha, rfl, q0, q1, q2, q3⟩ := h4.keep hbw
      have j0 : (0 : Int) ≤ (j : Int) := by omega
      have j1 : (j : Int) < (m : Int) := by omega
      have htk := tforms_take (List.getElem?_eq_getElem hjl)
      have hL1 := Hlen.out j (by omega)
      have hL2 := Hlen.out (j + 1) (by omega)
      have hyb := Hby.out l[j] (List.getElem_mem hjl)
      rw [htk, List.length_append] at hL2
      have Htk := Lib.hid htk
      clear htk hu
      generalize tform l[j] = G at *
      generalize tforms (l.take j) = T at *
      have hTl : ([2] ++ F ++ T).length ≤ 1 + F.length + T.length := by simp; omega
      generalize hY : [2] ++ F ++ T = Y at *
      have HY := Lib.hid hY
      clear hY
      obtain ⟨A3, c3, rfl, _, _⟩ := hownr.form
      go_wp2_with fail
      refine (hcall _ (by ((repeat' first | with_reducible exact Below.refl _ _ | with_reducible assumption | with_reducible refine Below.alloc ?_ ?_ _ | with_reducible refine Below.setCell ?_ ?_ _ | with_reducible apply Below.drew | with_reducible apply below_drewN | with_reducible refine below_call ?_ (by with_reducible assumption) ?_) <;> (first | omega | (simp; done) | (simp; omega) | (simp at *; omega))))).mono ?_
      rintro e w4 ⟨b, rfl, hown4, hbw4⟩
      obtain ⟨A4, c4, rfl, _, _⟩ := hown4.form
      have hownr4 := hownr.keep hbw4
      have hbel4 := below_call hbr hbw4 (by simpa using hzr)
      have hz4 := hbel4.size
      simp at hz4
      go_wp2_with ((at_builtin; go_loud (refine wpList_app _ rfl (.tmp 46) (.tmp 52) 36 rfl _ 5 i0 _ 1 1 Tryd.underlying36 hi hz0 hz1 hz2 rfl (by omega) _ _ _ rfl hownr4.1 _ _ _ _ rfl (Src.of_bytes hown4.bytes.2.2) ?h63 ?hby ?hbase ?_); (case h63 => (unfold maxLen; first | omega | (simp; done) | (simp; omega))); (case hby => first | omega | (simp; done) | (simp; omega)); (case hbase => first | omega | (simp; done) | (simp; omega)); intro v5 w5 hownw5 hgroww5 hatw5 holdw5))
      go_roundw
      case rel =>
        refine ⟨j + 1, by omega, by go_num, ?_, below_app hbel4 hownr4.1 hgroww5 (Nat.le_refl _) hz4⟩
        rw [Htk.out, ← List.append_assoc, HY.out]
        refine OwnB.join hownw5 (fun c hc => ?_) hyb
        exact hownr.2 c hc
      case measure => simp [intOf]; omega
    · have hall : l.take j = l := List.take_of_length_le (by have := Hm.out; omega)
      rw [hall] at hownr
      go_wp2_with fail
      go_ret
      exact ⟨_, rfl, by simpa using hownr.lower (Nat.le_succ _), below_box hbr⟩
end Go.Proofs.YtfdfcceleaodaaaDoor
