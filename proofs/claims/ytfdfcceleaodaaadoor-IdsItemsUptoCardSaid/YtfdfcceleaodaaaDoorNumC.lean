/- The walks of the document's numbers (package stonecropref01: digits, Put, Take), and of the example of package stonecroplaw01. -/
import Derived.Test.YtfdfcceleaodaaaDoorNumB
namespace Go.Proofs.YtfdfcceleaodaaaDoor
open Go.RowKit
set_option linter.unusedVariables false
set_option linter.unusedSimpArgs false
set_option maxRecDepth 20000
attribute [local go_sem ↓] Go.wp_at_zero Go.wp_at_succ
attribute [local go_sem] World.cell?_alloc_some frozen_alloc_some
attribute [local go_sem] lt2 lt3 lt4 lt5
attribute [local simp] lt2 lt3 lt4 lt5

/-- A literal row of bytes is of the call's own. -/
theorem OwnB.lit {w : World} {base : Nat} {e : TypeId} {l : List Nat} (hb : base ≤ w.heap.size) (hm : l.length ≤ maxLen) (hl : ∀ c ∈ l, c < 256) :
    OwnB (w.alloc (.cells (u8s l).toArray e)) base e (.slice (some ⟨w.heap.size, 0, none⟩) l.length l.length) l :=
  ⟨by simpa using World.ownsRow_lit (base := base) (e := e) (size := 1) w (u8s l).toArray l.length hb hm (by simp [u8s_length]), hl⟩

set_option maxHeartbeats 2000000 in
theorem digits_any (v : Nat) : ∀ (w : World), v < 2 ^ 64 → Calls Tryd.prog 97 #[.int .u64 (v : Int)] w (Makes w 5 (be v)) := by
  induction v using Nat.strongRecOn with
  | _ v ih =>
    intro w hv
    obtain ⟨i0, hi, hz0, hz1, hz2⟩ := info_parts info_u8
    by_cases h : v < 256
    · have hf := be_lt h
      rw [hf]
      have hc : IntKind.u8.wrap (v : Int) = (v : Int) := by rw [wrap_u8]; omega
      have Ih := Lib.hid ih
      clear ih
      go_enter Tryd.func97, Tryd.ntmps97
      go_wp2_with fail
      go_ret
      exact ⟨_, rfl, OwnB.lit (l := [v]) (Nat.le_refl _) (by simp [maxLen]) (by simpa using h), below_one _⟩
    · have hf := be_ge (show 256 ≤ v by omega)
      have hr : ∀ W, Calls Tryd.prog 97 #[.int .u64 ((v / 256 : Nat) : Int)] W (Makes W 5 (be (v / 256))) := fun W => ih (v / 256) (by omega) W (by omega)
      have hlen : (be (v / 256)).length ≤ 8 := by rw [be_length]; exact wid_bound (by omega)
      obtain ⟨q, hq⟩ : ∃ q, q = v / 256 := ⟨_, rfl⟩
      obtain ⟨d, hd⟩ : ∃ d, d = v % 256 := ⟨_, rfl⟩
      have hq1 : (v : Int) / 256 = (q : Int) := by omega
      have hd1 : (v : Int) % 256 = (d : Int) := by omega
      have hd2 : d < 256 := by omega
      rw [← hq] at hr hlen
      have hf2 : be v = be q ++ [d] := by rw [hf, hq, hd]
      have Hf := Lib.hid hf2
      clear ih hf hf2 hq hd
      generalize be q = l at *
      have hsrc : ∀ W : World, Src (W.alloc (.cells #[.int .u8 (d : Int)] 5)) 1 (some ⟨W.heap.size, 0, none⟩) 1 [.int .u8 (d : Int)] := fun W => src_one rfl
      go_enter Tryd.func97, Tryd.ntmps97
      go_wp2_with (first
        | (go_at_call 97; (with_reducible refine (hr _).mono ?_); rintro e w1 ⟨b, rfl, hown, hbw1⟩; have hzw1 := hbw1.size; have hon := Onto.refl hown; have hown1 := (hown.keep (below_one (.cells #[.int .u8 (d : Int)] 5))).1)
        | (at_builtin; go_loud (refine wpList_app _ rfl (.tmp 10) (.tmp 14) 36 rfl _ 5 i0 _ 1 1 Tryd.underlying36 hi hz0 hz1 hz2 rfl (by omega) _ _ _ rfl hown1 _ _ _ _ rfl (hsrc _) ?h63 ?hby ?hbase ?_); (case h63 => (unfold maxLen; first | omega | (simp; done) | (simp; omega))); (case hby => first | omega | (simp; done) | (simp; omega)); (case hbase => first | omega | (simp; done) | (simp; omega)); intro v2 w2 hownw2 hgroww2 hatw2 holdw2))
      go_ret
      have hon2 := onto_one hon hd2 hownw2 hgroww2 hatw2 holdw2
      exact ⟨_, rfl, by rw [Hf.out]; exact hon2.own, hon2.below hbw1 (Nat.le_refl _) hzw1 hown⟩

set_option maxHeartbeats 2000000 in
theorem refput_any (v : Nat) (w : World) (hv : v < 2 ^ 64) : Calls Tryd.prog 71 #[.int .u64 (v : Int)] w (Makes w 5 (form v)) := by
  obtain ⟨i0, hi, hz0, hz1, hz2⟩ := info_parts info_u8
  by_cases h : v < 248
  · have hf : form v = [v] := by unfold form; rw [if_pos h]
    rw [hf]
    have hc : IntKind.u8.wrap (v : Int) = (v : Int) := by rw [wrap_u8]; omega
    go_enter Tryd.func71, Tryd.ntmps71
    go_wp2_with fail
    go_ret
    exact ⟨_, rfl, OwnB.lit (l := [v]) (Nat.le_refl _) (by simp [maxLen]) (by simp; omega), below_one _⟩
  · have hf : form v = (247 + wid v) :: be v := by unfold form; rw [if_neg h]
    have hw8 := wid_bound hv
    have hr : ∀ W, Calls Tryd.prog 97 #[.int .u64 (v : Int)] W (Makes W 5 (be v)) := fun W => digits_any v W hv
    have hlen := be_length v
    have Hf := Lib.hid hf
    have hby := be_bytes v
    have Hlen := Lib.hid hlen
    clear hf hlen
    generalize wid v = n at *
    generalize be v = l at *
    have hll : l.length ≤ 8 := by have := Hlen.out; omega
    have hc : (247 : Int) + (l.length : Int) = ((247 + n : Nat) : Int) := by have := Hlen.out; omega
    have hc2 : IntKind.u8.wrap ((247 + n : Nat) : Int) = ((247 + n : Nat) : Int) := by rw [wrap_u8]; omega
    have hn256 : 247 + n < 256 := by omega
    go_enter Tryd.func71, Tryd.ntmps71
    go_wp2_with (first
      | (go_at_call 97; (with_reducible refine (hr _).mono ?_); rintro e w1 ⟨b, rfl, hown, hbw1⟩; have hzw1 := hbw1.size; obtain ⟨A, c, rfl, _, _⟩ := hown.form
         have hown0 := (OwnB.lit (w := w1) (base := w.heap.size) (e := 5) (l := [247 + n]) hzw1 (by simp [maxLen]) (by simpa using hn256)).1
         have hsrc := Src.of_bytes ((hown.keep (below_one (w := w1) (.cells #[.int .u8 ((247 + n : Nat) : Int)] 5))).bytes.2.2))
      | (at_builtin; go_loud (refine wpList_app _ rfl (.tmp 15) (.tmp 16) 36 rfl _ 5 i0 _ 1 1 Tryd.underlying36 hi hz0 hz1 hz2 rfl (by omega) _ _ _ rfl hown0 _ _ _ _ rfl hsrc ?h63 ?hby ?hbase ?_); (case h63 => (unfold maxLen; first | omega | (simp; done) | (simp; omega))); (case hby => first | omega | (simp; done) | (simp; omega)); (case hbase => first | omega | (simp; done) | (simp; omega)); intro v2 w2 hownw2 hgroww2 hatw2 holdw2))
    go_ret
    have hb2 : Below w.heap.size w w2 := below_app (hbw1.alloc hzw1 _) hown0 hgroww2 (Nat.le_refl _) (by simp; omega)
    refine ⟨_, rfl, ⟨?_, ?_⟩, hb2⟩
    · rw [Hf.out]
      have := hownw2
      simp only [List.length_cons, List.length_nil] at this ⊢
      rw [Nat.zero_add, Nat.add_comm 1] at this
      exact this
    · rw [Hf.out]
      intro c hc
      rcases List.mem_cons.1 hc with rfl | hc
      · exact hn256
      · exact hby c hc

theorem wrap_u64 (n : Int) : IntKind.u64.wrap n = n % 18446744073709551616 := by simp [IntKind.wrap, IntKind.bits, IntKind.signed]
def gotV (l : List Nat) : Value := .agg #[.int .u64 ((ntake l).1 : Int), .int .i64 ((ntake l).2.1 : Int), .int .i64 ((ntake l).2.2 : Int)]
end Go.Proofs.YtfdfcceleaodaaaDoor
