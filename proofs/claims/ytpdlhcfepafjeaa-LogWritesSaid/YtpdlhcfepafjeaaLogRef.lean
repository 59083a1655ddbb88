/- The document's SameAll and Form of records; the law's own example. -/
import Derived.Test.YtpdlhcfepafjeaaLogScan
import Derived.Test.YtpdlhcfepafjeaaLogPlB
import Derived.Test.YtpdlhcfepafjeaaSame01
import Derived.Test.YtpdlhcfepafjeaaNumC
import Derived.WalkKit
import Derived.WalkSpells
import Derived.WalkLawsBesides
import Derived.Deep.RegionHeld3
import Derived.Deep.DrawnRows
import Derived.Deep.DeepCutAuto
import Derived.Deep.DeepFit
import Derived.Lib.Hide
import Derived.BigQuiet
import Derived.Deep.QuietTactic
import Derived.Deep.RegionHeld3
namespace Go.Proofs.Ytpdlhcfepafjeaa
open Go.RowKit
set_option linter.unusedVariables false
set_option linter.unusedSimpArgs false
set_option maxRecDepth 20000
attribute [local go_sem ↓] Go.wp_at_zero Go.wp_at_succ
attribute [local go_sem] World.cell?_alloc_some frozen_alloc_some
open Go.Sort Go.Lib Go.Shelf

set_option maxHeartbeats 1000000 in
theorem sameall_any (A A2 : Option Addr) (m c m2 c2 : Nat) (l l2 : List (List Nat)) (w : World) (h1 : Texts w A m l) (h2 : Texts w A2 m2 l2) :
    Calls Try.prog 16 #[.slice A m c, .slice A2 m2 c2] w (Gives w (.bool (decide (l = l2)))) := by
  generalize hR : decide (l = l2) = R
  have HR := Lib.hid hR
  have H1 := Lib.hid h1
  have H2 := Lib.hid h2
  have Hm := Lib.hid h1.1
  have Hm2 := Lib.hid h2.1
  have hc := h1.2.1
  clear hR h1 h2
  by_cases e4 : m = m2
  case neg =>
    have hfin : R = false := by
      rw [← HR.out, decide_eq_false_iff_not]
      intro h; exact e4 (by rw [Hm.out, Hm2.out, h])
    subst hfin
    have e4' : ((m : Int) != (m2 : Int)) = true := by simp; omega
    go_enter Try.func16, Try.ntmps16
    go_wp2_with fail
    go_ret
    exact ⟨rfl, by ((repeat' first | with_reducible exact Below.refl _ _ | with_reducible assumption | with_reducible refine Below.alloc ?_ ?_ _ | with_reducible refine Below.setCell ?_ ?_ _ | with_reducible apply Below.drew | with_reducible apply below_drewN | with_reducible refine below_call ?_ (by with_reducible assumption) ?_) <;> (first | omega | (simp; done) | (simp; omega) | (simp at *; omega)))⟩
  subst e4
  have hmm : m ≤ 9223372036854775807 := by unfold maxLen at hc; omega
  go_enter Try.func16, Try.ntmps16
  go_wp2_with fail
  go_loopw [5] (fun s13 wr => ∃ j : Nat, j ≤ m ∧ s13 = .int .i64 j ∧ l.take j = l2.take j ∧ Below w.heap.size w wr) (fun s13 _ => m - (intOf s13).toNat)
  case atStart => exact ⟨0, by omega, rfl, rfl, by ((repeat' first | with_reducible exact Below.refl _ _ | with_reducible assumption | with_reducible refine Below.alloc ?_ ?_ _ | with_reducible refine Below.setCell ?_ ?_ _ | with_reducible apply Below.drew | with_reducible apply below_drewN | with_reducible refine below_call ?_ (by with_reducible assumption) ?_) <;> (first | omega | (simp; done) | (simp; omega) | (simp at *; omega)))⟩
  case round =>
    obtain ⟨j, hj, rfl, htk, hbr⟩ := hrel
    have hzr := hbr.size
    have Htk := Lib.hid htk
    clear htk
    by_cases hlt : j < m
    · have k1 : l[j]? = some (l[j]'(by have := Hm.out; omega)) := List.getElem?_eq_getElem _
      have k2 : l2[j]? = some (l2[j]'(by have := Hm2.out; omega)) := List.getElem?_eq_getElem _
      obtain ⟨b, B1, n1, c1, rfl, p0, y1⟩ := (H1.out.keep hbr).2.2 j _ k1
      obtain ⟨b2, B2, n2, d2, rfl, q0, y2⟩ := (H2.out.keep hbr).2.2 j _ k2
      have K1 := Lib.hid k1
      have K2 := Lib.hid k2
      clear k1 k2
      have j0 : (0 : Int) ≤ (j : Int) := by omega
      have j1 : (j : Int) < (m : Int) := by omega
      generalize l[j]'_ = x1 at *
      generalize l2[j]'_ = x2 at *
      have Hs := Lib.hid (fun W hb => same_any B1 B2 n1 n2 c1 d2 x1 x2 W (y1.keep hb) (y2.keep hb))
      clear y1 y2
      obtain ⟨R2, hR2⟩ : ∃ R2, decide (x1 = x2) = R2 := ⟨_, rfl⟩
      rw [hR2] at Hs
      have HR2 := Lib.hid hR2
      clear hR2
      go_upto_region 6 with fail
      (refine wp_region_held_drew (S := (S2 (b.add j) (b2.add j) (.slice B1 n1 c1) (.slice B2 n2 d2))) (by kernel_rfl) ?_ (fun hHeld => ?_); (· exact ⟨cell_keep (Below.refl _ _).drew p0, cell_keep (Below.refl _ _).drew q0⟩))
      have kd : Below wr.heap.size wr wr.drew := (Below.refl _ _).drew
      revert hHeld kd
      generalize World.drew _ = wd
      intro hHeld kd
      have hzd := kd.size
      (refine take_op (i := 0) (v := ?_) rfl (by kernel_rfl) (by kernel_rfl) (by kernel_rfl) (fun _ _ _ h => h) (by rfl) ?_ hHeld ?_; rotate_left; (· (intro wS hSw; (try dsimp only at hSw); go_simp; first | done | with_reducible rfl)); simp only [Act.put, List.setIfInBounds_toArray, List.set_cons_zero, List.set_cons_succ]); (refine take_op (i := 1) (v := ?_) rfl (by kernel_rfl) (by kernel_rfl) (by kernel_rfl) (fun _ _ _ h => h) (by rfl) ?_ hHeld ?_; rotate_left; (· (intro wS hSw; (try dsimp only at hSw); go_simp; first | done | with_reducible rfl)); simp only [Act.put, List.setIfInBounds_toArray, List.set_cons_zero, List.set_cons_succ]); (refine take_op (i := 2) (v := ?_) rfl (by kernel_rfl) (by kernel_rfl) (by kernel_rfl) (fun _ _ _ h => h) (by rfl) ?_ hHeld ?_; rotate_left; (· (intro wS hSw; (try dsimp only at hSw); go_simp; first | done | with_reducible rfl)); simp only [Act.put, List.setIfInBounds_toArray, List.set_cons_zero, List.set_cons_succ]); (refine take_op (i := 3) (v := ?_) rfl (by kernel_rfl) (by kernel_rfl) (by kernel_rfl) (fun _ _ _ h => h) (by rfl) ?_ hHeld ?_; rotate_left; (· (intro wS hSw; (try dsimp only at hSw); go_simp; first | done | with_reducible rfl)); simp only [Act.put, List.setIfInBounds_toArray, List.set_cons_zero, List.set_cons_succ]); (refine take_op (i := 4) (v := ?_) rfl (by kernel_rfl) (by kernel_rfl) (by kernel_rfl) (fun _ _ _ h => h) (by rfl) ?_ hHeld ?_; rotate_left; (· (intro wS hSw; (try dsimp only at hSw); go_simp; first | done | with_reducible rfl)); simp only [Act.put, List.setIfInBounds_toArray, List.set_cons_zero, List.set_cons_succ]); (refine take_op (i := 5) (v := ?_) rfl (by kernel_rfl) (by kernel_rfl) (by kernel_rfl) (fun _ _ _ h => h) (by rfl) ?_ hHeld ?_; rotate_left; (· (intro wS hSw; (try dsimp only at hSw); go_simp; first | done | with_reducible rfl)); simp only [Act.put, List.setIfInBounds_toArray, List.set_cons_zero, List.set_cons_succ]); (refine take_op (i := 6) (v := ?_) rfl (by kernel_rfl) (by kernel_rfl) (by kernel_rfl) (fun _ _ _ h => h) (by rfl) ?_ hHeld ?_; rotate_left; (· (intro wS hSw; (try dsimp only at hSw); go_simp; first | done | with_reducible rfl)); simp only [Act.put, List.setIfInBounds_toArray, List.set_cons_zero, List.set_cons_succ]); (refine take_op (i := 7) (v := ?_) rfl (by kernel_rfl) (by kernel_rfl) (by kernel_rfl) (fun _ _ _ h => h) (by rfl) ?_ hHeld ?_; rotate_left; (· (intro wS hSw; (try dsimp only at hSw); go_simp; first | done | with_reducible rfl)); simp only [Act.put, List.setIfInBounds_toArray, List.set_cons_zero, List.set_cons_succ])
      (refine call_op (i := 8) rfl (by kernel_rfl) (by rfl) (fun K hK => ?_); go_simp; (go_at_call 37; refine (Hs.out _ kd).mono ?_; rintro e w3 ⟨rfl, hb3⟩; have hz3 := hb3.size); refine hK.out _ _ (S2.keep hHeld hb3) (fun hHeld2 => ?_); clear hK K hHeld; have hHeld := hHeld2; clear hHeld2; (try simp only [Act.put, List.setIfInBounds_toArray, List.set_cons_zero, List.set_cons_succ]))
      (refine take_op (i := 9) (v := ?_) rfl (by kernel_rfl) (by kernel_rfl) (by kernel_rfl) (fun _ _ _ h => h) (by rfl) ?_ hHeld ?_; rotate_left; (· (intro wS hSw; (try dsimp only at hSw); go_simp; first | done | with_reducible rfl)); simp only [Act.put, List.setIfInBounds_toArray, List.set_cons_zero, List.set_cons_succ])
      (refine wpAnyH_done (by kernel_rfl) ?_ _)
      have hb4 : Below w.heap.size w w3 := hbr.trans ((kd.trans (hb3.mono hzd)).mono hzr)
      clear hHeld kd hb3 p0 q0
      cases R2
      · have hfin : R = false := by
          rw [← HR.out, decide_eq_false_iff_not]
          intro h
          rw [h] at K1
          have := K1.out.symm.trans K2.out
          injection this with this
          exact of_decide_eq_false HR2.out this
        subst hfin
        go_wp2_with fail
        go_ret
        exact ⟨rfl, hb4⟩
      · obtain rfl : x1 = x2 := of_decide_eq_true HR2.out
        have Hnx : Hid (l.take (j + 1) = l2.take (j + 1)) := Lib.hid (by rw [List.take_add_one, List.take_add_one, Htk.out, K1.out, K2.out])
        go_wp2_with fail
        go_roundw
        case rel => exact ⟨j + 1, by omega, by go_num, Hnx.out, hb4⟩
        case measure => simp [intOf]; omega
    · have hfin : R = true := by
        rw [← HR.out, decide_eq_true_iff]
        have t1 := Htk.out
        rw [List.take_of_length_le (by have := Hm.out; omega), List.take_of_length_le (by have := Hm2.out; omega)] at t1
        exact t1
      subst hfin
      go_wp2_with fail
      go_ret
      exact ⟨rfl, by ((repeat' first | with_reducible exact Below.refl _ _ | with_reducible assumption | with_reducible refine Below.alloc ?_ ?_ _ | with_reducible refine Below.setCell ?_ ?_ _ | with_reducible apply Below.drew | with_reducible apply below_drewN | with_reducible refine below_call ?_ (by with_reducible assumption) ?_) <;> (first | omega | (simp; done) | (simp; omega) | (simp at *; omega)))⟩

theorem fourB_lt (s : Nat) : ∀ c ∈ fourB s, c < 256 := fun c hc => by simp [fourB] at hc; omega
theorem four_bytes (s : Nat) (w : World) (hs : s < 4294967296) : Bytes (w.alloc (.cells #[.int .u8 ((s : Int) / 16777216), .int .u8 ((s : Int) / 65536 % 256), .int .u8 ((s : Int) / 256 % 256), .int .u8 ((s : Int) % 256)] 5)) (some ⟨w.heap.size, 0, none⟩) 4 (fourB s) := by
  have h1 : ((s / 16777216 % 256 : Nat) : Int) = (s : Int) / 16777216 := by omega
  have h2 : ((s / 65536 % 256 : Nat) : Int) = (s : Int) / 65536 % 256 := by omega
  have h3 : ((s / 256 % 256 : Nat) : Int) = (s : Int) / 256 % 256 := by omega
  have h4 : ((s % 256 : Nat) : Int) = (s : Int) % 256 := by omega
  have e : (u8s (fourB s)).toArray = #[.int .u8 ((s : Int) / 16777216), .int .u8 ((s : Int) / 65536 % 256), .int .u8 ((s : Int) / 256 % 256), .int .u8 ((s : Int) % 256)] := by
    simp only [u8s, fourB, List.map_cons, List.map_nil, h1, h2, h3, h4]
  rw [← e]
  exact (OwnB.lit (w := w) (base := 0) (Nat.zero_le _) (by rw [fourB_length]; decide) (fourB_lt s)).bytes.2.2
set_option maxHeartbeats 2000000 in
theorem refform_any (A : Option Addr) (n c : Nat) (l : List Nat) (w : World) (h : Bytes w A n l) (hn : n ≤ 1048576) :
    Calls Try.prog 53 #[.slice A n c] w (Makes w 5 (frm l)) := by
  have hinf := info_u8
  obtain ⟨i0, hi, e0⟩ := Option.map_eq_some_iff.1 hinf
  simp only [Prod.mk.injEq] at e0
  obtain ⟨hz0, hz1, hz2⟩ := e0
  clear hinf
  have hfl : frm l = (form n ++ fourB (crc (form n ++ l))) ++ l := by rw [frm, ← h.1, List.append_assoc]
  have Hfl := Lib.hid hfl
  have hF := form_le n (by omega)
  have hFb := form_bytes (v := n) (by omega)
  have hbl := h.lt
  have hln := h.1
  have put : ∀ W, Calls Try.prog 84 #[.int .u64 (n : Int)] W (Makes W 5 (form n)) := fun W => refput_any n W (by omega)
  clear hfl
  generalize form n = fm at *
  have hs4 := crc_lt (fm ++ l)
  have hsum : ∀ (W : World) (B : Option Addr) (k cc : Nat), Bytes W B k (fm ++ l) → Calls Try.prog 85 #[.slice B k cc] W (Gives W (.int .u32 ((crc (fm ++ l) : Nat) : Int))) := fun W B k cc hb => refsum_any B k cc _ W hb
  generalize crc (fm ++ l) = s4 at *
  have Hsum := Lib.hid hsum
  have Hput := Lib.hid put
  have HFb := Lib.hid hFb
  have Hbl := Lib.hid hbl
  have H := Lib.hid h
  clear hsum put hFb hbl h
  subst hln
  go_enter Try.func53, Try.ntmps53
  go_wp2_with fail
  refine (Hput.out _).mono ?_
  rintro e w1 ⟨b1, rfl, hown1, hbw1⟩
  have hzw1 := hbw1.size
  obtain ⟨A1, c1, rfl, hle1, hc1⟩ := hown1.form
  have hB1 := hown1.bytes.2.2
  have hown0 : OwnB (w1.alloc (.cells #[] 5)) w1.heap.size 5 (.slice (some ⟨w1.heap.size, 0, none⟩) 0 0) [] := OwnB.made (Nat.le_refl _)
  have hsrc0 := Src.of_bytes (hB1.keep (below_one (.cells #[] 5)))
  have h0 : ∀ c ∈ ([] : List Nat), c < 256 := by simp
  have bel1 : Below w1.heap.size w1 (w1.alloc (.cells #[] 5)) := below_one _
  have hs1 : w1.heap.size ≤ (w1.alloc (.cells #[] 5)).heap.size := by simp
  go_wp2_with (first
    | (have h9 := hown0; clear h9; ((at_builtin; go_loud (refine wpList_app _ rfl (.tmp 9) (.tmp 10) 22 rfl _ 5 i0 _ 1 1 Try.underlying22 hi hz0 hz1 hz2 rfl (by omega) _ _ _ rfl hown0.1 _ _ _ _ rfl hsrc0 ?h63 ?hby ?hbase ?_); (case h63 => (unfold maxLen; first | omega | (simp; done) | (simp; omega))); (case hby => first | omega | (simp; done) | (simp; omega)); (case hbase => first | omega | (simp; done) | (simp; omega)); intro v2 w2 hownw2 hgroww2 hatw2 holdw2)); have hown2 : OwnB w2 w1.heap.size 5 v2 fm := OwnB.join (l := []) hownw2 h0 HFb.out; have hb2 := below_app bel1 hown0.1 hgroww2 (Nat.le_refl _) hs1; have hsrc2 := Src.of_bytes (H.out.keep (hbw1.trans (hb2.mono hzw1))); have hz2' := hb2.size; clear hown0 hsrc0)
    | (have h9 := hown2; clear h9; ((at_builtin; go_loud (refine wpList_app _ rfl (.tmp 11) (.tmp 12) 22 rfl _ 5 i0 _ 1 1 Try.underlying22 hi hz0 hz1 hz2 rfl (by omega) _ _ _ rfl hown2.1 _ _ _ _ rfl hsrc2 ?h63 ?hby ?hbase ?_); (case h63 => (unfold maxLen; first | omega | (simp; done) | (simp; omega))); (case hby => first | omega | (simp; done) | (simp; omega)); (case hbase => first | omega | (simp; done) | (simp; omega)); intro v3 w3 hownw3 hgroww3 hatw3 holdw3)); have hown3 : OwnB w3 w1.heap.size 5 v3 (fm ++ l) := OwnB.join hownw3 HFb.out Hbl.out; have hb3 := below_app hb2 hown2.1 hgroww3 (Nat.le_refl _) hz2'; obtain ⟨A3, c3, hv3, _, _⟩ := hown3.form; rw [List.length_append] at hv3; subst hv3; have hB3 := hown3.bytes.2.2; have hz3' := hb3.size; clear hown2 hsrc2 hown3)
    | (go_at_call 85; refine (Hsum.out _ _ _ _ hB3).mono ?_; rintro e w4 ⟨rfl, hb4⟩; have hz4 := hb4.size; have hown14 := (hown1.keep (hb3.trans (hb4.mono hz3'))).keep (below_one (.cells #[.int .u8 ((s4 : Int) / 16777216), .int .u8 ((s4 : Int) / 65536 % 256), .int .u8 ((s4 : Int) / 256 % 256), .int .u8 ((s4 : Int) % 256)] 5)); have hsrc4 := Src.of_bytes (four_bytes s4 w4 hs4); have hb14 : Below w.heap.size w (w4.alloc (.cells #[.int .u8 ((s4 : Int) / 16777216), .int .u8 ((s4 : Int) / 65536 % 256), .int .u8 ((s4 : Int) / 256 % 256), .int .u8 ((s4 : Int) % 256)] 5)) := (hbw1.trans ((hb3.trans (hb4.mono hz3')).mono hzw1)).alloc (by omega) _)
    | (have h9 := hown14; clear h9; ((at_builtin; go_loud (refine wpList_app _ rfl (.tmp 15) (.tmp 30) 22 rfl _ 5 i0 _ 1 1 Try.underlying22 hi hz0 hz1 hz2 rfl (by omega) _ _ _ rfl hown14.1 _ _ _ _ rfl hsrc4 ?h63 ?hby ?hbase ?_); (case h63 => (unfold maxLen; first | omega | (simp; done) | (simp; omega))); (case hby => first | omega | (simp; done) | (simp; omega)); (case hbase => first | omega | (simp; done) | (simp; omega)); intro v5 w5 hownw5 hgroww5 hatw5 holdw5)); have hown5 : OwnB w5 w.heap.size 5 v5 (fm ++ fourB s4) := OwnB.join hownw5 HFb.out (fourB_lt s4); have hb5 := below_app hb14 hown14.1 hgroww5 (Nat.le_refl _) hb14.size; have hsrc5 := Src.of_bytes (H.out.keep hb5); have hz5 := hb5.size; have hl5 : (fm ++ fourB s4).length ≤ 13 := (by rw [List.length_append, fourB_length]; omega); clear hown14 hsrc4 hownw5)
    | (have h9 := hown5; clear h9; ((at_builtin; go_loud (refine wpList_app _ rfl (.tmp 32) (.tmp 33) 22 rfl _ 5 i0 _ 1 1 Try.underlying22 hi hz0 hz1 hz2 rfl (by omega) _ _ _ rfl hown5.1 _ _ _ _ rfl hsrc5 ?h63 ?hby ?hbase ?_); (case h63 => (unfold maxLen; first | omega | (simp; done) | (simp; omega))); (case hby => first | omega | (simp; done) | (simp; omega)); (case hbase => first | omega | (simp; done) | (simp; omega)); intro v6 w6 hownw6 hgroww6 hatw6 holdw6)); have hown6 : OwnB w6 w.heap.size 5 v6 (frm l) := (by rw [Hfl.out]; exact OwnB.join hownw6 hown5.2 Hbl.out); have hb6 := below_app hb5 hown5.1 hgroww6 (Nat.le_refl _) hz5; clear hown5 hownw6))
  go_ret
  exact ⟨_, rfl, hown6, hb6⟩
end Go.Proofs.Ytpdlhcfepafjeaa
