/- The walk of the law NumBack (package stonecroplaw01). -/
import Derived.Test.YtdmbpndplflebaaNumE
namespace Go.Proofs.Ytdmbpndplflebaa
open Go.RowKit
set_option linter.unusedVariables false
set_option linter.unusedSimpArgs false
set_option maxRecDepth 20000
attribute [local go_sem ↓] Go.wp_at_zero Go.wp_at_succ
attribute [local go_sem] World.cell?_alloc_some frozen_alloc_some
attribute [local go_sem] lt2 lt3 lt4 lt5
attribute [local simp] lt2 lt3 lt4 lt5

set_option maxHeartbeats 2000000 in
theorem back_walk (v : Nat) (A : Option Addr) (n cap : Nat) (l : List Nat) (cut : Int) (w : World) (hb : Bytes w A n l) (hv : v < 2 ^ 64) (hcut : (Lit.int .i64 cut).wf = true) :
    Calls Try.prog 12 #[.int .u64 (v : Int), .slice A n cap, .int .i64 cut] w (Gives w (.bool true)) := by
  by_cases hn : 300 < n
  · go_enter Try.func12, Try.ntmps12
    go_wp2_with (go_at_call 23; (with_reducible refine (awake01 _).mono ?_); rintro e w1 ⟨rfl, hbw1⟩; have hzw1 := hbw1.size; (try simp at hzw1))
    go_ret
    exact ⟨rfl, by ((repeat' first | with_reducible exact Below.refl _ _ | with_reducible assumption | with_reducible refine Below.alloc ?_ ?_ _ | with_reducible refine Below.setCell ?_ ?_ _ | with_reducible apply Below.drew | with_reducible apply below_drewN | with_reducible refine below_call ?_ (by with_reducible assumption) ?_) <;> (first | omega | (simp; done) | (simp; omega) | (simp at *; omega)))⟩
  have hln := hb.1
  subst hln
  obtain ⟨i0, hi, hz0, hz1, hz2⟩ := info_parts info_u8
  have hF : (form v).length ≤ 9 := by
    rw [size_form]; have := wid_bound hv; unfold size; split <;> omega
  have hF1 : 1 ≤ (form v).length := by
    rw [size_form]; unfold size; split <;> omega
  have hFb := form_bytes hv
  have hbl := hb.lt
  have put : ∀ W, Calls Try.prog 24 #[.slice none 0 0, .int .u64 (v : Int)] W (Makes W 5 (form v)) := fun W => put_nil v W hv
  have size_ : ∀ W, Calls Try.prog 27 #[.int .u64 (v : Int)] W (Gives W (.int .i64 ((form v).length : Int))) := fun W => by
    rw [size_form]; exact size_any v W hv
  have take1 : ∀ (W : World) (B : Option Addr) (m c : Nat), Bytes W B m (form v ++ l) → Calls Try.prog 28 #[.slice B m c] W (Gives W (.tuple #[.int .u64 (v : Int), .int .i64 ((form v).length : Int), .int .i64 0])) := fun W B m c h => by
    have := take_any B m c _ W h
    unfold takeV at this
    rw [ntake_form] at this
    rw [size_form]
    exact this
  have hpr := pickV_range (k := cut) (n := ((form v).length : Int)) (by omega)
  obtain ⟨p, hp⟩ := Int.eq_ofNat_of_zero_le hpr.1
  have pick : ∀ W, Calls Try.prog 22 #[.int .i64 cut, .int .i64 ((form v).length : Int)] W (Gives W (.int .i64 (p : Int))) := fun W => by
    rw [← hp]; exact pick_any _ _ W (by omega) (by omega) hcut
  have hpl : p < (form v).length := by omega
  have take2 : ∀ (W : World) (B : Option Addr) (c : Nat), Bytes W B p ((form v).take p) → Calls Try.prog 28 #[.slice B p c] W (Gives W (.tuple #[.int .u64 0, .int .i64 0, .int .i64 2])) := fun W B c h => by
    have := take_any B p c _ W h
    unfold takeV at this
    rw [ntake_cut v p (by rw [← size_form]; omega)] at this
    exact this
  clear hpr hp
  generalize form v = F at *
  go_enter Try.func12, Try.ntmps12
  go_wp2_with fail
  refine (put _).mono ?_
  rintro e w1 ⟨b1, rfl, hown1, hbw1⟩
  have hzw1 := hbw1.size
  obtain ⟨A1, c1, rfl, hle1, hc1⟩ := hown1.form
  have hB1 := hown1.bytes.2.2
  have hown0 : OwnB (w1.alloc (.cells #[] 5)) w.heap.size 5 (.slice (some ⟨w1.heap.size, 0, none⟩) 0 0) [] := OwnB.made hzw1
  have hsrc0 := Src.of_bytes (hB1.keep (below_one (.cells #[] 5)))
  have h0 : ∀ c ∈ ([] : List Nat), c < 256 := by simp
  have hs0 : w.heap.size ≤ (w1.alloc (.cells #[] 5)).heap.size := by simp; omega
  have bel1 := hbw1.alloc hzw1 (.cells #[] 5)
  go_wp2_with (first
    | (have h9 := hown0; clear h9; ((at_builtin; go_loud (refine wpList_app _ rfl (.tmp 21) (.tmp 22) 30 rfl _ 5 i0 _ 1 1 Try.underlying30 hi hz0 hz1 hz2 rfl (by omega) _ _ _ rfl hown0.1 _ _ _ _ rfl hsrc0 ?h63 ?hby ?hbase ?_); (case h63 => (unfold maxLen; first | omega | (simp; done) | (simp; omega))); (case hby => first | omega | (simp; done) | (simp; omega)); (case hbase => first | omega | (simp; done) | (simp; omega)); intro v2 w2 hownw2 hgroww2 hatw2 holdw2)); have hown2 := OwnB.join (l := []) hownw2 h0 hFb; have hb2 := below_app bel1 hown0.1 hgroww2 (Nat.le_refl _) hs0; have hsrc2 := Src.of_bytes (hb.keep hb2); have hz2' := hb2.size; clear hown0)
    | (at_builtin; go_loud (refine wpList_app _ rfl (.tmp 23) (.tmp 24) 30 rfl _ 5 i0 _ 1 1 Try.underlying30 hi hz0 hz1 hz2 rfl (by omega) _ _ _ rfl hown2.1 _ _ _ _ rfl hsrc2 ?h63 ?hby ?hbase ?_); (case h63 => (unfold maxLen; first | omega | (simp; done) | (simp; omega))); (case hby => first | omega | (simp; done) | (simp; omega)); (case hbase => first | omega | (simp; done) | (simp; omega)); intro v3 w3 hownw3 hgroww3 hatw3 holdw3))
  have r2 : ∀ k, (Value.slice (some ⟨w1.heap.size, 0, none⟩) 0 0).ownBlock = some k → w1.heap.size ≤ k := fun k hk => by
    simp [Value.ownBlock] at hk; omega
  have hown12 := hown1.past (below_one _) hgroww2 r2
  have q2 : ∀ k, v2.ownBlock = some k → w1.heap.size ≤ k := fun k hk => by
    rcases hatw2 with h | h
    · rw [h] at hk; exact r2 k hk
    · rw [h] at hk; simp at hk; omega
  have Q2 : ∀ k, v2.ownBlock = some k → ((Value.slice A1 F.length c1).ownBlock ≠ some k) := fun k hk h => by
    have := (hown1.1.lt k h).2; have := q2 k hk; omega
  have hown3 : OwnB w3 w.heap.size 5 v3 (F ++ l) := OwnB.join (l := [] ++ F) hownw3 (by simpa using hFb) hbl
  have hb3 : Below w.heap.size w w3 := below_app hb2 hown2.1 hgroww3 (Nat.le_refl _) hb2.size
  have hown13 : OwnB w3 w.heap.size 5 (.slice A1 F.length c1) F := hown12.kept hgroww3 (by
    cases h : (Value.slice A1 F.length c1).ownBlock with
    | none => exact .inl rfl
    | some k => exact .inr fun he => Q2 k he.symm h)
  clear hownw3 hgroww3 hatw3 holdw3 hown12 hown2 Q2
  obtain ⟨A3, c3, rfl, _, _⟩ := hown3.form
  have hB3 := hown3.bytes.2.2
  have hB1 := hown13.bytes.2.2
  have hz3' := hb3.size
  have t1 := take1 _ _ _ c3 hB3
  have t2 : ∀ W c, Below w3.heap.size w3 W → Calls Try.prog 28 #[.slice A1 p c] W (Gives W (.tuple #[.int .u64 0, .int .i64 0, .int .i64 2])) := fun W c h => take2 _ _ _ ((hB1.cutTo (by omega)).keep h)
  clear hown3 hown13 hB3 hB1 take1 take2 put
  generalize (F ++ l).length = lf at *
  have j1 : (0 : Int) ≤ (p : Int) := by omega
  have j2 : (p : Int) ≤ (c1 : Int) := by omega
  generalize F.length = f at *
  go_wp2_with (first
    | (go_at_call 28; (with_reducible refine (t1).mono ?_); rintro e w4 ⟨rfl, hbw4⟩; have hzw4 := hbw4.size; (try simp at hzw4))
    | (go_at_call 28; (with_reducible refine (t2 _ _ ?hbel).mono ?_); (case hbel => ((repeat' first | with_reducible exact Below.refl _ _ | with_reducible assumption | with_reducible refine Below.alloc ?_ ?_ _ | with_reducible refine Below.setCell ?_ ?_ _ | with_reducible apply Below.drew | with_reducible apply below_drewN | with_reducible refine below_call ?_ (by with_reducible assumption) ?_) <;> (first | omega | (simp; done) | (simp; omega) | (simp at *; omega)))); rintro e w4 ⟨rfl, hbw4⟩; have hzw4 := hbw4.size; (try simp at hzw4))
    | (go_at_call 22; (with_reducible refine (pick _).mono ?_); rintro e w4 ⟨rfl, hbw4⟩; have hzw4 := hbw4.size; (try simp at hzw4))
    | (go_at_call 27; (with_reducible refine (size_ _).mono ?_); rintro e w4 ⟨rfl, hbw4⟩; have hzw4 := hbw4.size; (try simp at hzw4))
    | (go_at_call 23; (with_reducible refine (awake01 _).mono ?_); rintro e w4 ⟨rfl, hbw4⟩; have hzw4 := hbw4.size; (try simp at hzw4)))
  all_goals go_ret
  all_goals exact ⟨by simp, by ((repeat' first | with_reducible exact Below.refl _ _ | with_reducible assumption | with_reducible refine Below.alloc ?_ ?_ _ | with_reducible refine Below.setCell ?_ ?_ _ | with_reducible apply Below.drew | with_reducible apply below_drewN | with_reducible refine below_call ?_ (by with_reducible assumption) ?_) <;> (first | omega | (simp; done) | (simp; omega) | (simp at *; omega)))⟩
end Go.Proofs.Ytdmbpndplflebaa
