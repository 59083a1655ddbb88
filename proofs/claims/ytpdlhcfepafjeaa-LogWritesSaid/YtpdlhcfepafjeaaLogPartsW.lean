/- The law LogParts, walked. -/
import Derived.Test.YtpdlhcfepafjeaaAwake13
import Derived.Test.YtpdlhcfepafjeaaAppG
namespace Go.Proofs.Ytpdlhcfepafjeaa
open Go.RowKit
set_option linter.unusedVariables false
set_option linter.unusedSimpArgs false
set_option maxRecDepth 20000
attribute [local go_sem ↓] Go.wp_at_zero Go.wp_at_succ
attribute [local go_sem] World.cell?_alloc_some frozen_alloc_some
open Go.Sort Go.Lib Go.Shelf

theorem rows_texts {W : World} {b1 b2 : Nat} {A : Option Addr} {n c : Nat} {vs : List Value} {ls : List (List Nat)} (hr : W.ownsRow b1 22 1 (.slice A n c) ls.length vs) (hv : RowB W b2 vs ls) : Texts W A n ls :=
  (OwnRows.texts (base := min b1 b2) ⟨vs, ⟨hr.1, hr.2.imp id fun ⟨g, cap, cur, e1, e2, r⟩ => ⟨g, cap, cur, e1, Nat.le_trans (Nat.min_le_left _ _) e2, r⟩⟩, hv.1, fun i l hi => have ⟨u, hu, ho⟩ := hv.2 i l hi; ⟨u, hu, OwnB.low ho (Nat.min_le_right _ _)⟩⟩).1
theorem rows_src {W : World} {b1 b2 : Nat} {A : Option Addr} {n c : Nat} {vs : List Value} {ls : List (List Nat)} (hr : W.ownsRow b1 22 1 (.slice A n c) ls.length vs) (hv : RowB W b2 vs ls) : Src W 1 A n vs := by
  have ht := rows_texts hr hv
  refine ⟨by rw [hv.1, ht.1, Nat.mul_one], fun j u hj => ?_, fun u hu => ?_⟩
  · have hjl : j < ls.length := by have := (List.getElem?_eq_some_iff.1 hj).1; rw [hv.1] at this; exact this
    rcases hr.2 with ⟨_, e0⟩ | ⟨g, cap, cur, e, _, hgb, hnc, hcm, hcs, htk⟩
    · omega
    · injection e with e1 e2 e3
      subst e1
      refine ⟨_, rfl, ?_⟩
      have hadd : (⟨g, 0, none⟩ : Addr).add j = ⟨g, j, none⟩ := by unfold Addr.add; split <;> simp_all
      rw [hadd, cell_of_row W g j cur _ (0, 0) hgb]
      rw [← htk, List.getElem?_take] at hj
      split at hj
      · simpa using hj
      · cases hj
  · obtain ⟨i, hi⟩ := List.getElem?_of_mem hu
    obtain ⟨u', hu', ho⟩ := hv.2 i _ (List.getElem?_eq_getElem (by have := (List.getElem?_eq_some_iff.1 hi).1; rw [hv.1] at this; exact this))
    rw [hi] at hu'
    injection hu' with hu'
    subst hu'
    obtain ⟨A', c', e, _, _⟩ := ho.form
    rw [e]
    rfl
theorem RowB.append {W : World} {b1 b2 b : Nat} {vs us : List Value} {ls ms : List (List Nat)} (h : RowB W b1 vs ls) (k : RowB W b2 us ms) (h1 : b ≤ b1) (h2 : b ≤ b2) : RowB W b (vs ++ us) (ls ++ ms) :=
  ⟨by rw [List.length_append, List.length_append, h.1, k.1], fun i l hi => by
    by_cases hlt : i < ls.length
    · rw [List.getElem?_append_left hlt] at hi
      obtain ⟨u, e, ho⟩ := h.2 i l hi
      exact ⟨u, by rw [List.getElem?_append_left (by rw [h.1]; exact hlt)]; exact e, OwnB.low ho h1⟩
    · rw [List.getElem?_append_right (by omega)] at hi
      obtain ⟨u, e, ho⟩ := k.2 _ l hi
      exact ⟨u, by rw [List.getElem?_append_right (by rw [h.1]; omega), h.1]; exact e, OwnB.low ho h2⟩⟩
theorem rows_form {W : World} {b : Nat} {v : Value} {k : Nat} {vs : List Value} (h : W.ownsRow b 22 1 v k vs) : ∃ A c, v = .slice A k c := by
  rcases h.2 with ⟨rfl, e⟩ | ⟨g, cap, cur, rfl, _⟩
  · exact ⟨none, 0, by rw [e]⟩
  · exact ⟨_, _, rfl⟩
theorem rows_made {W : World} : (W.alloc (.cells #[] 22)).ownsRow W.heap.size 22 1 (.slice (some ⟨W.heap.size, 0, none⟩) 0 0) 0 [] :=
  World.ownsRow_made W #[] 0 (Nat.le_refl _) (Nat.zero_le _) (by simp)
theorem scanW_le (b : List Nat) : scanW b ≤ b.length := by
  have := (lastE_le b.length 0 b).2
  unfold scanW recs
  omega

set_option maxHeartbeats 1000000 in
theorem parts_walk (A : Option Addr) (n c : Nat) (B : Option Addr) (m d : Nat) (la lb : List Nat) (w : World) (ha : Bytes w A n la) (hb : Bytes w B m lb) (hc : n ≤ c) (hd : m ≤ d) :
    Calls Try.prog 3 #[.slice A n c, .slice B m d] w (Gives w (.bool true)) := by
  have hAw : ∀ W, Calls Try.prog 14 #[] W (Gives W (.bool true)) := awake13
  by_cases hn : 500 < n
  · go_enter Try.func3, Try.ntmps3
    go_wp2_with (go_at_call 14; refine (hAw _).mono ?_; rintro e w1 ⟨rfl, hb1⟩; have hz1 := hb1.size)
    go_ret
    exact ⟨rfl, by ((repeat' first | with_reducible exact Below.refl _ _ | with_reducible assumption | with_reducible refine Below.alloc ?_ ?_ _ | with_reducible refine Below.setCell ?_ ?_ _ | with_reducible apply Below.drew | with_reducible apply below_drewN | with_reducible refine below_call ?_ (by with_reducible assumption) ?_) <;> (first | omega | (simp; done) | (simp; omega) | (simp at *; omega)))⟩
  by_cases hm : 500 < m
  · go_enter Try.func3, Try.ntmps3
    go_wp2_with (go_at_call 14; refine (hAw _).mono ?_; rintro e w1 ⟨rfl, hb1⟩; have hz1 := hb1.size)
    go_ret
    exact ⟨rfl, by ((repeat' first | with_reducible exact Below.refl _ _ | with_reducible assumption | with_reducible refine Below.alloc ?_ ?_ _ | with_reducible refine Below.setCell ?_ ?_ _ | with_reducible apply Below.drew | with_reducible apply below_drewN | with_reducible refine below_call ?_ (by with_reducible assumption) ?_) <;> (first | omega | (simp; done) | (simp; omega) | (simp at *; omega)))⟩
  have hla := ha.1
  have hlb := hb.1
  have sa : ∀ W, Below w.heap.size w W → Calls Try.prog 15 #[.slice A n c] W (fun e w' => ∃ v, e = .returned (.tuple #[v, .int .i64 (scanW la : Int)]) ∧ OwnRows w' W.heap.size v (scanL la) ∧ Below W.heap.size W w') := fun W h => scan_any A n c la W (ha.keep h) (by omega) hc
  by_cases hw : scanW la < n
  · generalize scanW la = wa at *
    have hw' : (wa : Int) < (n : Int) := by omega
    clear hla hlb
    go_enter Try.func3, Try.ntmps3
    go_wp2_with (first
      | (go_at_call 15; refine (sa _ (Below.refl _ _)).mono ?_; rintro e w1 ⟨v1, rfl, _, hb1⟩; have hz1 := hb1.size)
      | (go_at_call 14; refine (hAw _).mono ?_; rintro e w2 ⟨rfl, hb2⟩; have hz2 := hb2.size))
    go_ret
    exact ⟨rfl, by ((repeat' first | with_reducible exact Below.refl _ _ | with_reducible assumption | with_reducible refine Below.alloc ?_ ?_ _ | with_reducible refine Below.setCell ?_ ?_ _ | with_reducible apply Below.drew | with_reducible apply below_drewN | with_reducible refine below_call ?_ (by with_reducible assumption) ?_) <;> (first | omega | (simp; done) | (simp; omega) | (simp at *; omega)))⟩
  have hwa : scanW la = n := by have := scanW_le la; omega
  obtain ⟨hp1, hp2⟩ := scan_parts (a := la) (b := lb) (by omega)
  rw [hwa] at sa hp2
  have sb : ∀ W, Below w.heap.size w W → Calls Try.prog 15 #[.slice B m d] W (fun e w' => ∃ v, e = .returned (.tuple #[v, .int .i64 (scanW lb : Int)]) ∧ OwnRows w' W.heap.size v (scanL lb) ∧ Below W.heap.size W w') := fun W h => scan_any B m d lb W (hb.keep h) (by omega) hd
  have sc : ∀ W D k cc, Bytes W D k (la ++ lb) → k ≤ cc → Calls Try.prog 15 #[.slice D k cc] W (fun e w' => ∃ v, e = .returned (.tuple #[v, .int .i64 ((n : Int) + (scanW lb : Int))]) ∧ OwnRows w' W.heap.size v (scanL la ++ scanL lb) ∧ Below W.heap.size W w') := fun W D k cc h hk => by
    have h1 := scan_any D k cc _ W h (by have := h.1; rw [List.length_append] at this; omega) hk
    rw [hp1, hp2, show ((n + scanW lb : Nat) : Int) = (n : Int) + (scanW lb : Int) by omega] at h1
    exact h1
  have hsl := scanW_le lb
  have hxl : (scanL la).length ≤ n := by rw [hla]; unfold scanL; rw [List.length_map]; exact recsF_length _ _ _
  have hyl : (scanL lb).length ≤ m := by rw [hlb]; unfold scanL; rw [List.length_map]; exact recsF_length _ _ _
  clear hp1 hp2 hwa hw
  subst hla
  subst hlb
  generalize scanW lb = wb at *
  generalize scanL la = X at *
  generalize scanL lb = Y at *
  obtain ⟨i0, hi, hz0, hz1, hz2⟩ := info_parts info_u8
  obtain ⟨j0, hj, hy0, hy1, hy2⟩ := info_parts slice_info
  have hAb := ha.lt
  have hBb := hb.lt
  have SA := Lib.hid sa
  have SB := Lib.hid sb
  have SC := Lib.hid sc
  have HA := Lib.hid ha
  have HB := Lib.hid hb
  have HAb := Lib.hid hAb
  have HBb := Lib.hid hBb
  clear sa sb sc ha hb hAb hBb
  go_enter Try.func3, Try.ntmps3
  go_wp2_with fail
  refine (SA.out _ (Below.refl _ _)).mono ?_
  rintro e w1 ⟨v1, rfl, hx1, hb1⟩
  obtain ⟨vs, hr1, hv1⟩ := hx1
  obtain ⟨A1, c1, rfl⟩ := rows_form hr1
  have hzz1 := hb1.size
  go_wp2_with fail
  refine (SB.out _ hb1).mono ?_
  rintro e w2 ⟨v2, rfl, hx2, hb2⟩
  obtain ⟨us, hr2, hv2⟩ := hx2
  obtain ⟨A2, c2, rfl⟩ := rows_form hr2
  have hzz2 := hb2.size
  have hb02 : Below w.heap.size w w2 := hb1.trans (hb2.mono hzz1)
  have hwr : IntKind.i64.wrap ((la.length : Int) + (wb : Int)) = (la.length : Int) + (wb : Int) := IntWalk.i64_in _ (by omega)
  have own0 : OwnB (w2.alloc (.cells #[] 5)) w2.heap.size 5 (.slice (some ⟨w2.heap.size, 0, none⟩) 0 0) [] := OwnB.made (Nat.le_refl _)
  have bel0 : Below w2.heap.size w2 (w2.alloc (.cells #[] 5)) := below_one _
  have hs0 : w2.heap.size ≤ (w2.alloc (.cells #[] 5)).heap.size := by simp
  have srcA := Src.of_bytes (HA.out.keep (hb02.trans (bel0.mono hb02.size)))
  have h0 : ∀ c ∈ ([] : List Nat), c < 256 := by simp
  go_wp2_with (first
    | (have h9 := own0; clear h9; ((at_builtin; go_loud (refine wpList_app _ rfl (.tmp 36) (.tmp 37) 22 rfl _ 5 i0 _ 1 1 Try.underlying22 hi hz0 hz1 hz2 rfl (by omega) _ _ _ rfl own0.1 _ _ _ _ rfl srcA ?h63 ?hby ?hbase ?_); (case h63 => (unfold maxLen; first | omega | (simp; done) | (simp; omega))); (case hby => first | omega | (simp; done) | (simp; omega)); (case hbase => first | omega | (simp; done) | (simp; omega)); intro v3 w3 hownw3 hgroww3 hatw3 holdw3)); have own3 : OwnB w3 w2.heap.size 5 v3 la := OwnB.join (l := []) hownw3 h0 HAb.out; have hb3 := below_app bel0 own0.1 hgroww3 (Nat.le_refl _) hs0; have srcB := Src.of_bytes (HB.out.keep (hb02.trans (hb3.mono hb02.size))); have hz3 := hb3.size; clear own0 srcA hownw3 holdw3 hgroww3 hatw3)
    | (have h9 := own3; clear h9; ((at_builtin; go_loud (refine wpList_app _ rfl (.tmp 38) (.tmp 39) 22 rfl _ 5 i0 _ 1 1 Try.underlying22 hi hz0 hz1 hz2 rfl (by omega) _ _ _ rfl own3.1 _ _ _ _ rfl srcB ?h63 ?hby ?hbase ?_); (case h63 => (unfold maxLen; first | omega | (simp; done) | (simp; omega))); (case hby => first | omega | (simp; done) | (simp; omega)); (case hbase => first | omega | (simp; done) | (simp; omega)); intro v4 w4 hownw4 hgroww4 hatw4 holdw4)); have own4 : OwnB w4 w2.heap.size 5 v4 (la ++ lb) := OwnB.join hownw4 HAb.out HBb.out; have hb4 := below_app hb3 own3.1 hgroww4 (Nat.le_refl _) hz3; obtain ⟨A4, c4, hv4, hle4, _⟩ := own4.form; rw [List.length_append] at hv4 hle4; subst hv4; have y4 := own4.bytes.2.2; have Y4 := Lib.hid y4; have hz4 := hb4.size; clear own3 srcB own4 y4 hownw4 holdw4 hgroww4 hatw4 hb3))
  refine (SC.out _ _ _ _ Y4.out hle4).mono ?_
  rintro e w5 ⟨v5, rfl, hx5, hb5⟩
  obtain ⟨zs, hr5, hv5⟩ := hx5
  obtain ⟨A5, c5, rfl⟩ := rows_form hr5
  have t5 := rows_texts hr5 hv5
  have T5 := Lib.hid t5
  have bel25 : Below w2.heap.size w2 w5 := hb4.trans (hb5.mono hz4)
  have bel15 : Below w1.heap.size w1 w5 := hb2.trans (bel25.mono hzz2)
  have hr1' := row_below hr1 bel15
  have hv1' := hv1.below bel15
  have hr2' := row_below hr2 bel25
  have hv2' := hv2.below bel25
  have bel0w : Below w.heap.size w w5 := hb02.trans (bel25.mono hb02.size)
  have hz05 := bel0w.size
  clear hr1 hv1 hr2 hv2 hb1 hb2 hb4 hb5 bel15 bel25 hb02 bel0 hs0 hzz1 hzz2 hz3 hz4 hz0 hz1 hz2 hi hr5 hv5 t5
  have bel6 : Below w5.heap.size w5 (w5.alloc (.cells #[] 22)) := below_one _
  have rowM : (w5.alloc (.cells #[] 22)).ownsRow w5.heap.size 22 1 (.slice (some ⟨w5.heap.size, 0, none⟩) 0 0) 0 [] := rows_made
  have srcX : Src (w5.alloc (.cells #[] 22)) 1 A1 X.length vs := rows_src (row_below hr1' bel6) (hv1'.below bel6)
  have lenXY : (X ++ Y).length = X.length + Y.length := List.length_append
  rw [lenXY] at T5
  have hs6 : w5.heap.size ≤ (w5.alloc (.cells #[] 22)).heap.size := by simp
  clear lenXY
  go_wp2_with (first
    | (have h9 := rowM; clear h9; ((at_builtin; go_loud (refine wpList_step fun KK hKK => ?_); ((refine step_app' (by rfl) (.tmp 51) (.tmp 52) 24 rfl _ 22 j0 _ 1 24 Try.underlying24 hj hy0 hy1 hy2 rfl (by omega) _ _ _ rfl rowM _ _ _ _ rfl srcX ?h63 ?hby ?hbase ?_); (case h63 => (unfold maxLen; first | omega | (simp; done) | (simp; omega))); (case hby => first | omega | (simp; done) | (simp; omega)); (case hbase => first | omega | (simp; done) | (simp; omega)); intro v6 w6 hownw6 hgroww6 hatw6 holdw6); refine hKK _ _ ?_)); have r6 : w6.ownsRow w5.heap.size 22 1 v6 X.length vs := (by simpa using hownw6); have hb6 := below_app bel6 rowM hgroww6 (Nat.le_refl _) hs6; have hz6 := hb6.size; have srcY : Src w6 1 A2 Y.length us := rows_src (row_below hr2' hb6) (hv2'.below hb6); clear rowM srcX hownw6 holdw6 hgroww6 hatw6)
    | (have h9 := r6; clear h9; ((at_builtin; go_loud (refine wpList_step fun KK hKK => ?_); ((refine step_app' (by rfl) (.tmp 53) (.tmp 54) 24 rfl _ 22 j0 _ 1 24 Try.underlying24 hj hy0 hy1 hy2 rfl (by omega) _ _ _ rfl r6 _ _ _ _ rfl srcY ?h63 ?hby ?hbase ?_); (case h63 => (unfold maxLen; first | omega | (simp; done) | (simp; omega))); (case hby => first | omega | (simp; done) | (simp; omega)); (case hbase => first | omega | (simp; done) | (simp; omega)); intro v7 w7 hownw7 hgroww7 hatw7 holdw7); refine hKK _ _ ?_)); have hb7 := below_app hb6 r6 hgroww7 (Nat.le_refl _) hz6; have hz7 := hb7.size; have r7 := hownw7; obtain ⟨A7, c7, rfl⟩ := rows_form r7; have T7 : Texts w7 A7 (X.length + Y.length) (X ++ Y) := rows_texts (vs := vs ++ us) (by rw [List.length_append]; exact r7) ((hv1'.below hb7).append (b := 0) (hv2'.below hb7) (Nat.zero_le _) (Nat.zero_le _)); clear r6 srcY r7 hownw7 holdw7 hgroww7 hatw7)
    | (go_at_call 16; refine (sameall_any _ _ _ _ _ _ (X ++ Y) (X ++ Y) _ (T5.out.keep hb7) T7).mono ?_; rintro e w8 ⟨rfl, hb8⟩; have hz8 := hb8.size)
    | (go_at_call 14; refine (hAw _).mono ?_; rintro e w9 ⟨rfl, hb9⟩; have hz9 := hb9.size))
  all_goals go_ret
  all_goals exact ⟨by simp, by ((repeat' first | with_reducible exact Below.refl _ _ | with_reducible assumption | with_reducible refine Below.alloc ?_ ?_ _ | with_reducible refine Below.setCell ?_ ?_ _ | with_reducible apply Below.drew | with_reducible apply below_drewN | with_reducible refine below_call ?_ (by with_reducible assumption) ?_) <;> (first | omega | (simp; done) | (simp; omega) | (simp at *; omega)))⟩
end Go.Proofs.Ytpdlhcfepafjeaa
