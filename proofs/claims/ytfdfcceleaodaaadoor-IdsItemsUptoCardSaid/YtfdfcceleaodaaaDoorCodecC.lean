/- The walks of package stonecropref03 on items: Form. -/
import Derived.Test.YtfdfcceleaodaaaDoorCodecB
import Derived.Test.YtfdfcceleaodaaaDoorText
namespace Go.Proofs.YtfdfcceleaodaaaDoor
open Go.RowKit
set_option linter.unusedVariables false
set_option linter.unusedSimpArgs false
set_option maxRecDepth 20000
attribute [local go_sem ↓] Go.wp_at_zero Go.wp_at_succ
attribute [local go_sem] World.cell?_alloc_some frozen_alloc_some
attribute [local go_sem] lt2 lt3 lt4 lt5
attribute [local simp] lt2 lt3 lt4 lt5

theorem OwnB.lower {w : World} {base base' : Nat} {e : TypeId} {v : Value} {l : List Nat} (h : OwnB w base e v l) (hb : base' ≤ base) : OwnB w base' e v l := by
  refine ⟨⟨h.1.1, ?_⟩, h.2⟩
  rcases h.1.2 with h1 | ⟨g, cap, cur, e1, h1, h2⟩
  · exact .inl h1
  · exact .inr ⟨g, cap, cur, e1, by omega, h2⟩
theorem own_lit {w : World} {o : Obj} {e : TypeId} {c : Nat} (hc : c < 256) :
    OwnB ((w.alloc o).alloc (.cells #[.int .u8 (c : Int)] e)) (w.heap.size + 1) e (.slice (some ⟨w.heap.size + 1, 0, none⟩) 1 1) [c] := by
  have h := OwnB.lit (w := w.alloc o) (base := w.heap.size + 1) (e := e) (l := [c]) (by simp) (by simp [maxLen]) (by simpa using hc)
  have e1 : (w.alloc o).heap.size = w.heap.size + 1 := by simp
  rw [e1] at h
  exact h
theorem below_lit {w : World} {o o2 : Obj} : Below (w.heap.size + 1) (w.alloc o) ((w.alloc o).alloc o2) := (Below.refl _ _).alloc (by simp) _
theorem below_box {w w' : World} {o : Obj} (h : Below (w.heap.size + 1) (w.alloc o) w') : Below w.heap.size w w' := (below_one o).trans (h.mono (by omega))
theorem box_cell {w w' : World} {c : Array Value} {t : TypeId} (h : Below (w.heap.size + 1) (w.alloc (.cells c t)) w') (i : Nat) {v : Value} (hv : c[i]? = some v) : w'.cell? ⟨w.heap.size, i, none⟩ = some v :=
  (h.cell (p := ⟨w.heap.size, i, none⟩) (Nat.lt_succ_self _)).trans (new_cell w c t i hv).1

set_option maxHeartbeats 4000000 in
theorem reform_num (n : Nat) (v : Value) (w : World) (ht : Holds w (.mk 0 n ByteArray.empty []) v) :
    Calls Tryd.prog 48 #[v] w (Makes w 5 (0 :: form n)) := by
  obtain ⟨A, m, c, rfl, hk, hn, hs, hm, hmc, hc, hel⟩ := ht.open_
  obtain ⟨i0, hi, hz0, hz1, hz2⟩ := info_parts info_u8
  have hr : ∀ W, Calls Tryd.prog 71 #[.int .u64 (n : Int)] W (Makes W 5 (form n)) := fun W => refput_any n W hn
  have hF := form_len hn
  have hFb := form_bytes hn
  clear hel ht hm
  generalize form n = F at *
  have hc0 : IntKind.u8.wrap 0 = 0 := by decide
  have hown0 := own_lit (w := w) (o := .cells #[.int .i64 0, .int .u64 (n : Int), .string ByteArray.empty, .slice A m c] 26) (e := 5) (c := 0) (by decide)
  have hb0 := below_lit (w := w) (o := .cells #[.int .i64 0, .int .u64 (n : Int), .string ByteArray.empty, .slice A m c] 26) (o2 := .cells #[.int .u8 ((0 : Nat) : Int)] 5)
  go_enter Tryd.func48, Tryd.ntmps48
  go_wp2_with fail
  refine (hr _).mono ?_
  rintro e w1 ⟨b, rfl, hown, hbw1⟩
  obtain ⟨A1, c1, rfl, _, _⟩ := hown.form
  have hown1 := hown0.keep hbw1
  have hbel := below_call hb0 hbw1 (by simp)
  have hz1' := hbel.size
  simp at hz1'
  go_wp2_with (at_builtin; go_loud (refine wpList_app _ rfl (.tmp 12) (.tmp 15) 36 rfl _ 5 i0 _ 1 1 Tryd.underlying36 hi hz0 hz1 hz2 rfl (by omega) _ _ _ rfl hown1.1 _ _ _ _ rfl (Src.of_bytes hown.bytes.2.2) ?h63 ?hby ?hbase ?_); (case h63 => (unfold maxLen; first | omega | (simp; done) | (simp; omega))); (case hby => first | omega | (simp; done) | (simp; omega)); (case hbase => first | omega | (simp; done) | (simp; omega)); intro v2 w2 hownw2 hgroww2 hatw2 holdw2)
  go_ret
  exact ⟨_, rfl, (OwnB.join (l := [0]) hownw2 (by simp) hFb).lower (by omega), below_box (below_app hbel hown1.1 hgroww2 (Nat.le_refl _) hz1')⟩
set_option maxHeartbeats 4000000 in
theorem reform_text (s : ByteArray) (v : Value) (w : World) (ht : Holds w (.mk 1 0 s []) v) (hsz : s.size ≤ 100000000) :
    Calls Tryd.prog 48 #[v] w (Makes w 5 (1 :: (form s.size ++ txt s))) := by
  obtain ⟨A, m, c, rfl, hk, hn, hs, hm, hmc, hc, hel⟩ := ht.open_
  obtain ⟨i0, hi, hz0, hz1, hz2⟩ := info_parts info_u8
  have hr : ∀ W, Calls Tryd.prog 71 #[.int .u64 (s.size : Int)] W (Makes W 5 (form s.size)) := fun W => refput_any s.size W (by omega)
  have hF := form_len (v := s.size) (by omega)
  have hFb := form_bytes (v := s.size) (by omega)
  have htb := txt_lt s
  have htl := txt_length s
  have hcv := fun W : World => Lib.run_convert_string_bytes (P := Tryd.prog) W 9 36 5 s Tryd.underlying9 Tryd.underlying36 Tryd.underlying5
  clear hel ht hm
  generalize form s.size = F at *
  have hc0 : IntKind.u8.wrap 1 = 1 := by decide
  have hc1 : IntKind.u64.wrap (s.size : Int) = (s.size : Int) := by rw [wrap_u64]; omega
  have hown0 := own_lit (w := w) (o := .cells #[.int .i64 1, .int .u64 ((0 : Nat) : Int), .string s, .slice A m c] 26) (e := 5) (c := 1) (by decide)
  have hb0 := below_lit (w := w) (o := .cells #[.int .i64 1, .int .u64 ((0 : Nat) : Int), .string s, .slice A m c] 26) (o2 := .cells #[.int .u8 ((1 : Nat) : Int)] 5)
  have hcap := fun W : World => Lib.bytesWorld_size W 5 s
  go_enter Tryd.func48, Tryd.ntmps48
  go_wp2_with fail
  refine (hr _).mono ?_
  rintro e w1 ⟨b, rfl, hown, hbw1⟩
  obtain ⟨A1, c1, rfl, _, _⟩ := hown.form
  have hown1 := hown0.keep hbw1
  have hbel := below_call hb0 hbw1 (by simp)
  have hz1' := hbel.size
  simp at hz1'
  have hj1 : ∀ c ∈ [1], c < 256 := by simp
  have hj2 : ∀ c ∈ [1] ++ F, c < 256 := fun c hc => by
    rcases List.mem_append.1 hc with hc | hc
    · exact hj1 c hc
    · exact hFb c hc
  go_wp2_with (first
    | (have h9 := hown1; clear h9; ((at_builtin; go_loud (refine wpList_app _ rfl (.tmp 20) (.tmp 25) 36 rfl _ 5 i0 _ 1 1 Tryd.underlying36 hi hz0 hz1 hz2 rfl (by omega) _ _ _ rfl hown1.1 _ _ _ _ rfl (Src.of_bytes hown.bytes.2.2) ?h63 ?hby ?hbase ?_); (case h63 => (unfold maxLen; first | omega | (simp; done) | (simp; omega))); (case hby => first | omega | (simp; done) | (simp; omega)); (case hbase => first | omega | (simp; done) | (simp; omega)); intro v2 w2 hownw2 hgroww2 hatw2 holdw2)); have hown2 := OwnB.join (l := [1]) hownw2 hj1 hFb; have hb2 := below_app hbel hown1.1 hgroww2 (Nat.le_refl _) hz1'; have hcell2 := box_cell hb2 2 rfl; have hz2' := hb2.size; (simp at hz2'); have hown3 := hown2.keep (text_below w2 5 s); have hb3 := below_call hb2 (text_below w2 5 s) hz2'; have hz3' := hb3.size; (simp at hz3'); have hsrc3 := Src.of_bytes (text_bytes w2 5 s hs); clear hown1)
    | (at_builtin; go_loud (refine wpList_app _ rfl (.tmp 27) (.tmp 30) 36 rfl _ 5 i0 _ 1 1 Tryd.underlying36 hi hz0 hz1 hz2 rfl (by omega) _ _ _ rfl hown3.1 _ _ _ _ rfl hsrc3 ?h63 ?hby ?hbase ?_); (case h63 => (unfold maxLen; first | omega | (simp; done) | (simp; omega))); (case hby => first | omega | (simp; done) | (simp; omega)); (case hbase => first | omega | (simp; done) | (simp; omega)); intro v4 w4 hownw4 hgroww4 hatw4 holdw4))
  go_ret
  refine ⟨_, rfl, ?_, below_box (below_app hb3 hown3.1 hgroww4 (Nat.le_refl _) hz3')⟩
  have := (OwnB.join (l := [1] ++ F) (m := txt s) (by rw [txt_length]; exact hownw4) hj2 htb).lower (Nat.le_succ _)
  simpa using this
end Go.Proofs.YtfdfcceleaodaaaDoor
