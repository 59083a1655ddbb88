/- The walks of package num (wide, Size, Put, Take) and of the document's numbers (package stonecropref01: digits, Put, Take, Same). -/
import Derived.Test.YtfdfcceleaodaaaDoorAppC
import Derived.Test.YtfdfcceleaodaaaDoorNumMath
import Derived.Test.YtfdfcceleaodaaaDoorShelf
namespace Go.Proofs.YtfdfcceleaodaaaDoor
open Go.RowKit
set_option linter.unusedVariables false
set_option linter.unusedSimpArgs false
set_option maxRecDepth 20000
attribute [local go_sem ↓] Go.wp_at_zero Go.wp_at_succ
attribute [local go_sem] World.cell?_alloc_some frozen_alloc_some
attribute [local go_sem] lt2 lt3 lt4 lt5
attribute [local simp] lt2 lt3 lt4 lt5

theorem wrap_u8 (n : Int) : IntKind.u8.wrap n = n % 256 := by simp [IntKind.wrap, IntKind.bits, IntKind.signed]
theorem info_u8 : (Tryd.prog.info? 5).map (fun i => (i.zero, i.size, i.bytes)) = some (some (.int .u8 0), 1, 1) := by kernel_rfl

set_option maxHeartbeats 1000000 in
theorem wide_any (v : Nat) (w : World) (hv : v < 2 ^ 64) : Calls Tryd.prog 118 #[.int .u64 (v : Int)] w (Gives w (.int .i64 (wid v : Int))) := by
  have hw := wid_bits hv
  have hl : ∀ W : World, Calls Tryd.prog 126 #[.int .u64 (v : Int)] W fun e w' => e = .returned (.int .i64 ((Go.Lib.bitLen v : Nat) : Int)) ∧ W = w' := fun W =>
    (Tryd.bits_Len64 (v : Int) W (by omega) (by omega)).mono fun e w' ⟨h1, h2⟩ => ⟨by simpa using h1, h2.symm⟩
  have hb : Go.Lib.bitLen v ≤ 64 := by
    have := wid_bound hv
    omega
  have Hw := Lib.hid hw
  clear hw
  generalize Go.Lib.bitLen v = b at *
  go_enter Tryd.func118, Tryd.ntmps118
  go_wp2_with (go_at_call 126; (with_reducible refine (hl _).mono ?_); rintro e w' ⟨rfl, rfl⟩)
  go_ret
  refine ⟨ret_int ?_, Below.refl _ _⟩
  rw [← Hw.out]
  first | omega | (simp; omega) | trace_state

set_option maxHeartbeats 1000000 in
theorem size_any (v : Nat) (w : World) (hv : v < 2 ^ 64) : Calls Tryd.prog 127 #[.int .u64 (v : Int)] w (Gives w (.int .i64 (size v : Int))) := by
  have hw := wid_bound hv
  have hs : size v = if v < 248 then 1 else 1 + wid v := rfl
  have Hs := Lib.hid hs
  have hwd : ∀ W, Calls Tryd.prog 118 #[.int .u64 (v : Int)] W (Gives W (.int .i64 (wid v : Int))) := fun W => wide_any v W hv
  clear hs
  generalize wid v = n at *
  have hv1 : (v : Int) ≤ 18446744073709551615 := by omega
  have Hv := Lib.hid hv
  clear hv
  by_cases h : v < 248
  · go_enter Tryd.func127, Tryd.ntmps127
    go_wp2_with fail
    go_ret
    refine ⟨ret_int ?_, Below.refl _ _⟩
    rw [Hs.out, if_pos h]; rfl
  · go_enter Tryd.func127, Tryd.ntmps127
    go_wp2_with (go_at_call 118; (with_reducible refine (hwd _).mono ?_); rintro e w1 ⟨rfl, hbw1⟩; have hzw1 := hbw1.size)
    go_ret
    refine ⟨ret_int ?_, by ((repeat' first | with_reducible exact Below.refl _ _ | with_reducible assumption | with_reducible refine Below.alloc ?_ ?_ _ | with_reducible refine Below.setCell ?_ ?_ _ | with_reducible apply Below.drew | with_reducible apply below_drewN | with_reducible refine below_call ?_ (by with_reducible assumption) ?_) <;> (first | omega | (simp; done) | (simp; omega) | (simp at *; omega)))⟩
    rw [Hs.out, if_neg h]; omega

/-- One byte more behind a row of the call's own: the append of the code's 'append(b, x)'. -/
theorem onto_one {w w1 w2 : World} {base : Nat} {b b1 b2 : Value} {l l1 : List Nat} {c : Nat} {o : Obj} (h : Onto w base 5 b l w1 b1 l1) (hc : c < 256)
    (hown : w2.ownsRow base 5 1 b2 (l1.length + 1) (u8s l1 ++ [.int .u8 (c : Int)])) (hg : (w1.alloc o).grownBy w2 b1.ownBlock) (hat : b2.ownBlock = b1.ownBlock ∨ b2.ownBlock = some (w1.alloc o).heap.size)
    (hold : w2.ownsRow base 5 1 b1 l1.length (u8s l1)) : Onto w base 5 b l w2 b2 (l1 ++ [c]) :=
  (h.keep (below_one o)).step (m := [c]) hown (by simpa using hc) hg hat hold

set_option maxHeartbeats 2000000 in
theorem put_any (b : Value) (l : List Nat) (base v : Nat) (w : World) (hb : OwnB w base 5 b l) (hbase : base ≤ w.heap.size) (hl : l.length ≤ 1000000000) (hv : v < 2 ^ 64) :
    Calls Tryd.prog 96 #[b, .int .u64 (v : Int)] w (Appends w base 5 b l (form v)) := by
  obtain ⟨i0, hi, hz0, hz1, hz2⟩ := info_parts info_u8
  have honto := Onto.refl hb
  by_cases h : v < 248
  · have hf : form v = [v] := by unfold form; rw [if_pos h]
    rw [hf]
    have hc : IntKind.u8.wrap (v : Int) = (v : Int) := by rw [wrap_u8]; omega
    have hown0 := (hb.keep (below_one (.cells #[.int .u8 (v : Int)] 5))).1
    have hsrc : Src (w.alloc (.cells #[.int .u8 (v : Int)] 5)) 1 (some ⟨w.heap.size, 0, none⟩) 1 [.int .u8 (v : Int)] := src_one rfl
    go_enter Tryd.func96, Tryd.ntmps96
    go_wp2_with (at_builtin; go_loud (refine wpList_app _ rfl (.tmp 9) (.tmp 12) 36 rfl _ 5 i0 _ 1 1 Tryd.underlying36 hi hz0 hz1 hz2 rfl (by omega) _ _ _ rfl hown0 _ _ _ _ rfl hsrc ?h63 ?hby ?hbase ?_); (case h63 => (unfold maxLen; first | omega | (simp; done) | (simp; omega))); (case hby => first | omega | (simp; done) | (simp; omega)); (case hbase => first | omega | (simp; done) | (simp; omega)); intro v' w1 hownw1 hgroww1 hatw1 holdw1)
    go_ret
    exact ⟨_, rfl, onto_one honto (by omega) hownw1 hgroww1 hatw1 holdw1⟩
  · have hf : form v = (247 + wid v) :: be v := by unfold form; rw [if_neg h]
    have hw8 := wid_bound hv
    have hw1 := wid_pos v
    have hbt := beTo_wid v
    have Hf := Lib.hid hf
    have Hbt := Lib.hid hbt
    have hwd : ∀ W, Calls Tryd.prog 118 #[.int .u64 (v : Int)] W (Gives W (.int .i64 (wid v : Int))) := fun W => wide_any v W hv
    clear hf hbt
    generalize wid v = n at *
    have hc : IntKind.u8.wrap (247 + (n : Int)) = ((247 + n : Nat) : Int) := by rw [wrap_u8]; omega
    have hsrc : ∀ W : World, Src (W.alloc (.cells #[.int .u8 ((247 + n : Nat) : Int)] 5)) 1 (some ⟨W.heap.size, 0, none⟩) 1 [.int .u8 ((247 + n : Nat) : Int)] := fun W => src_one rfl
    go_enter Tryd.func96, Tryd.ntmps96
    go_wp2_with (first
      | (go_at_call 118; (with_reducible refine (hwd _).mono ?_); rintro e w0 ⟨rfl, hbw0⟩; have hzw0 := hbw0.size; have hon0 := honto.keep hbw0; have hown0 := (hon0.own.keep (below_one (.cells #[.int .u8 ((247 + n : Nat) : Int)] 5))).1)
      | (at_builtin; go_loud (refine wpList_app _ rfl (.tmp 16) (.tmp 20) 36 rfl _ 5 i0 _ 1 1 Tryd.underlying36 hi hz0 hz1 hz2 rfl (by omega) _ _ _ rfl hown0 _ _ _ _ rfl (hsrc _) ?h63 ?hby ?hbase ?_); (case h63 => (unfold maxLen; first | omega | (simp; done) | (simp; omega))); (case hby => first | omega | (simp; done) | (simp; omega)); (case hbase => first | omega | (simp; done) | (simp; omega)); intro v' w1 hownw1 hgroww1 hatw1 holdw1))
    have hon1 := onto_one (c := 247 + n) hon0 (by omega) hownw1 hgroww1 hatw1 holdw1
    clear hownw1 hgroww1 hatw1 holdw1 hon0 hown0 hbw0 hzw0
    go_loopw [0, 23] (fun s0 s23 wr => ∃ k : Nat, k ≤ n ∧ s23 = .int .i64 k ∧ Onto w base 5 b l wr s0 (l ++ [247 + n] ++ beTo v n k)) (fun _ s23 _ => n - (intOf s23).toNat)
    case atStart => exact ⟨0, by omega, rfl, by simpa [beTo] using hon1⟩
    case round =>
      obtain ⟨k, hk, rfl, hon⟩ := hrel
      by_cases hlt : k < n
      · obtain ⟨d, hd⟩ : ∃ d, d = v / 256 ^ (n - 1 - k) % 256 := ⟨_, rfl⟩
        have hdb : (v : Int) / 2 ^ (8 * (n - 1 - k)) % 256 = (d : Int) := by
          have h2 : (2 : Int) ^ (8 * (n - 1 - k)) = ((256 ^ (n - 1 - k) : Nat) : Int) := by
            rw [Int.pow_mul]; simp [Int.natCast_pow]
          rw [h2, hd]
          omega
        have hd2 : d < 256 := by omega
        have hnx : beTo v n (k + 1) = beTo v n k ++ [d] := by rw [beTo_succ, hd]
        have Hnx := Lib.hid hnx
        clear hnx hd
        have hsz : 1 ≤ n := hw1
        have hown1 := (hon.own.keep (below_one (.cells #[.int .u8 (d : Int)] 5))).1
        have hzr := hon.grown.size
        have hll : (l ++ [247 + n] ++ beTo v n k).length ≤ l.length + 9 := by simp [beTo]; omega
        have hsrc1 : Src (wr.alloc (.cells #[.int .u8 (d : Int)] 5)) 1 (some ⟨wr.heap.size, 0, none⟩) 1 [.int .u8 (d : Int)] := src_one rfl
        obtain ⟨l1, hl1⟩ : ∃ l1, l1 = l ++ [247 + n] ++ beTo v n k := ⟨_, rfl⟩
        have Hl1 := Lib.hid hl1
        rw [← hl1] at hon hown1 hll
        clear hl1
        go_wp2_with (at_builtin; go_loud (refine wpList_app _ rfl (.tmp 26) (.tmp 36) 36 rfl _ 5 i0 _ 1 1 Tryd.underlying36 hi hz0 hz1 hz2 rfl (by omega) _ _ _ rfl hown1 _ _ _ _ rfl hsrc1 ?h63 ?hby ?hbase ?_); (case h63 => (unfold maxLen; first | omega | (simp; done) | (simp; omega))); (case hby => first | omega | (simp; done) | (simp; omega)); (case hbase => first | omega | (simp; done) | (simp; omega)); intro v2 w2 hownw2 hgroww2 hatw2 holdw2)
        have hon2 := onto_one hon hd2 hownw2 hgroww2 hatw2 holdw2
        go_roundw
        case rel => exact ⟨k + 1, by omega, by go_num, by rw [Hnx.out, ← List.append_assoc, ← Hl1.out]; exact hon2⟩
        case measure => simp [intOf]; omega
      · have hkn : k = n := by omega
        have hlast : l ++ [247 + n] ++ beTo v n k = l ++ form v := by rw [hkn, Hbt.out, Hf.out]; simp
        rw [hlast] at hon
        clear hkn hlast
        go_wp2_with fail
        go_ret
        exact ⟨_, rfl, hon⟩
end Go.Proofs.YtfdfcceleaodaaaDoor
