/- The walks of the document's numbers (package stonecropref01: digits, Put, Take), and of the example of package stonecroplaw01. -/
import Derived.Test.YtekbebekihcnpaaNumB
namespace Go.Proofs.Ytekbebekihcnpaa
open Go.RowKit
set_option linter.unusedVariables false
set_option linter.unusedSimpArgs false
set_option maxRecDepth 20000
attribute [local go_sem ↓] Go.wp_at_zero Go.wp_at_succ
attribute [local go_sem] World.cell?_alloc_some frozen_alloc_some
attribute [local go_sem] lt2 lt3 lt4 lt5
attribute [local simp] lt2 lt3 lt4 lt5

/-- A literal row of bytes is of the call's own. -/
theorem OwnB.lit {w : World} {base : Nat} {e : TypeId} {l : List Nat} (hb : base ≤ w.heap.size) (hm : l.length ≤ maxLen) (hl : ∀ c ∈ l, c < 256) :
    OwnB (w.alloc (.cells (u8s l).toArray e)) base e (.slice (some ⟨w.heap.size, 0, none⟩) l.length l.length) l :=
  ⟨by simpa using World.ownsRow_lit (base := base) (e := e) (size := 1) w (u8s l).toArray l.length hb hm (by simp [u8s_length]), hl⟩

set_option maxHeartbeats 2000000 in
theorem digits_any (v : Nat) : ∀ (w : World), v < 2 ^ 64 → Calls Try.prog 53 #[.int .u64 (v : Int)] w (Makes w 5 (be v)) := by
  induction v using Nat.strongRecOn with
  | _ v ih =>
    intro w hv
    obtain ⟨i0, hi, hz0, hz1, hz2⟩ := info_parts info_u8
    by_cases h : v < 256
    · have hf := be_lt h
      rw [hf]
      have hc : IntKind.u8.wrap (v : Int) = (v : Int) := by rw [wrap_u8]; omega
      have Ih := Lib.hid ih
      clear ih
      go_enter Try.func53, Try.ntmps53
      go_wp2_with fail
      go_ret
      exact ⟨_, rfl, OwnB.lit (l := [v]) (Nat.le_refl _) (by simp [maxLen]) (by simpa using h), below_one _⟩
    · have hf := be_ge (show 256 ≤ v by omega)
      have hr : ∀ W, Calls Try.prog 53 #[.int .u64 ((v / 256 : Nat) : Int)] W (Makes W 5 (be (v / 256))) := fun W => ih (v / 256) (by omega) W (by omega)
      have hlen : (be (v / 256)).length ≤ 8 := by rw [be_length]; exact wid_bound (by omega)
      obtain ⟨q, hq⟩ : ∃ q, q = v / 256 := ⟨_, rfl⟩
      obtain ⟨d, hd⟩ : ∃ d, d = v % 256 := ⟨_, rfl⟩
      have hq1 : (v : Int) / 256 = (q : Int) := by omega
      have hd1 : (v : Int) % 256 = (d : Int) := by omega
      have hd2 : d < 256 := by omega
      rw [← hq] at hr hlen
      have hf2 : be v = be q ++ [d] := by rw [hf, hq, hd]
      have Hf := Lib.hid hf2
      clear ih hf hf2 hq hd
      generalize be q = l at *
      have hsrc : ∀ W : World, Src (W.alloc (.cells #[.int .u8 (d : Int)] 5)) 1 (some ⟨W.heap.size, 0, none⟩) 1 [.int .u8 (d : Int)] := fun W => src_one rfl
      go_enter Try.func53, Try.ntmps53
      go_wp2_with (first
        | (go_at_call 53; (with_reducible refine (hr _).mono ?_); rintro e w1 ⟨b, rfl, hown, hbw1⟩; have hzw1 := hbw1.size; have hon := Onto.refl hown; have hown1 := (hown.keep (below_one (.cells #[.int .u8 (d : Int)] 5))).1)
        | (at_builtin; go_loud (refine wpList_app _ rfl (.tmp 10) (.tmp 14) 28 rfl _ 5 i0 _ 1 1 Try.underlying28 hi hz0 hz1 hz2 rfl (by omega) _ _ _ rfl hown1 _ _ _ _ rfl (hsrc _) ?h63 ?hby ?hbase ?_); (case h63 => (unfold maxLen; first | omega | (simp; done) | (simp; omega))); (case hby => first | omega | (simp; done) | (simp; omega)); (case hbase => first | omega | (simp; done) | (simp; omega)); intro v2 w2 hownw2 hgroww2 hatw2 holdw2))
      go_ret
      have hon2 := onto_one hon hd2 hownw2 hgroww2 hatw2 holdw2
      exact ⟨_, rfl, by rw [Hf.out]; exact hon2.own, hon2.below hbw1 (Nat.le_refl _) hzw1 hown⟩

set_option maxHeartbeats 2000000 in
theorem refput_any (v : Nat) (w : World) (hv : v < 2 ^ 64) : Calls Try.prog 41 #[.int .u64 (v : Int)] w (Makes w 5 (form v)) := by
  obtain ⟨i0, hi, hz0, hz1, hz2⟩ := info_parts info_u8
  by_cases h : v < 248
  · have hf : form v = [v] := by unfold form; rw [if_pos h]
    rw [hf]
    have hc : IntKind.u8.wrap (v : Int) = (v : Int) := by rw [wrap_u8]; omega
    go_enter Try.func41, Try.ntmps41
    go_wp2_with fail
    go_ret
    exact ⟨_, rfl, OwnB.lit (l := [v]) (Nat.le_refl _) (by simp [maxLen]) (by simp; omega), below_one _⟩
  · have hf : form v = (247 + wid v) :: be v := by unfold form; rw [if_neg h]
    have hw8 := wid_bound hv
    have hr : ∀ W, Calls Try.prog 53 #[.int .u64 (v : Int)] W (Makes W 5 (be v)) := fun W => digits_any v W hv
    have hlen := be_length v
    have Hf := Lib.hid hf
    have hby := be_bytes v
    have Hlen := Lib.hid hlen
    clear hf hlen
    generalize wid v = n at *
    generalize be v = l at *
    have hll : l.length ≤ 8 := by have := Hlen.out; omega
    have hc : (247 : Int) + (l.length : Int) = ((247 + n : Nat) : Int) := by have := Hlen.out; omega
    have hc2 : IntKind.u8.wrap ((247 + n : Nat) : Int) = ((247 + n : Nat) : Int) := by rw [wrap_u8]; omega
    have hn256 : 247 + n < 256 := by omega
    go_enter Try.func41, Try.ntmps41
    go_wp2_with (first
      | (go_at_call 53; (with_reducible refine (hr _).mono ?_); rintro e w1 ⟨b, rfl, hown, hbw1⟩; have hzw1 := hbw1.size; obtain ⟨A, c, rfl, _, _⟩ := hown.form
         have hown0 := (OwnB.lit (w := w1) (base := w.heap.size) (e := 5) (l := [247 + n]) hzw1 (by simp [maxLen]) (by simpa using hn256)).1
         have hsrc := Src.of_bytes ((hown.keep (below_one (w := w1) (.cells #[.int .u8 ((247 + n : Nat) : Int)] 5))).bytes.2.2))
      | (at_builtin; go_loud (refine wpList_app _ rfl (.tmp 15) (.tmp 16) 28 rfl _ 5 i0 _ 1 1 Try.underlying28 hi hz0 hz1 hz2 rfl (by omega) _ _ _ rfl hown0 _ _ _ _ rfl hsrc ?h63 ?hby ?hbase ?_); (case h63 => (unfold maxLen; first | omega | (simp; done) | (simp; omega))); (case hby => first | omega | (simp; done) | (simp; omega)); (case hbase => first | omega | (simp; done) | (simp; omega)); intro v2 w2 hownw2 hgroww2 hatw2 holdw2))
    go_ret
    have hb2 : Below w.heap.size w w2 := below_app (hbw1.alloc hzw1 _) hown0 hgroww2 (Nat.le_refl _) (by simp; omega)
    refine ⟨_, rfl, ⟨?_, ?_⟩, hb2⟩
    · rw [Hf.out]
      have := hownw2
      simp only [List.length_cons, List.length_nil] at this ⊢
      rw [Nat.zero_add, Nat.add_comm 1] at this
      exact this
    · rw [Hf.out]
      intro c hc
      rcases List.mem_cons.1 hc with rfl | hc
      · exact hn256
      · exact hby c hc

theorem wrap_u64 (n : Int) : IntKind.u64.wrap n = n % 18446744073709551616 := by simp [IntKind.wrap, IntKind.bits, IntKind.signed]
def gotV (l : List Nat) : Value := .agg #[.int .u64 ((ntake l).1 : Int), .int .i64 ((ntake l).2.1 : Int), .int .i64 ((ntake l).2.2 : Int)]
set_option maxHeartbeats 2000000 in
theorem reftake_any (A : Option Addr) (n cap : Nat) (l : List Nat) (w : World) (hb : Bytes w A n l) (hcap : n ≤ cap) (hcm : cap ≤ maxLen) :
    Calls Try.prog 51 #[.slice A n cap] w (Gives w (gotV l)) := by
  have hln := hb.1
  have hm := hb.2.1
  unfold maxLen at hm hcm
  cases l with
  | nil =>
    have hn0 : n = 0 := by simpa using hln
    subst hn0
    have hv : gotV [] = .agg #[.int .u64 0, .int .i64 0, .int .i64 2] := rfl
    rw [hv]
    clear hv hln
    go_enter Try.func51, Try.ntmps51
    go_wp2_with fail
    refine bodyPost_ret (v := .agg #[.int .u64 0, .int .i64 0, .int .i64 2]) (by simp [results, Try.results51, go_sem, *]) rfl ?_
    exact ⟨rfl, by ((repeat' first | with_reducible exact Below.refl _ _ | with_reducible assumption | with_reducible refine Below.alloc ?_ ?_ _ | with_reducible refine Below.setCell ?_ ?_ _ | with_reducible apply Below.drew | with_reducible apply below_drewN | with_reducible refine below_call ?_ (by with_reducible assumption) ?_) <;> (first | omega | (simp; done) | (simp; omega) | (simp at *; omega)))⟩
  | cons b0 r =>
    have hn1 : 0 < n := by simp at hln; omega
    obtain ⟨ad, c0, rfl, hc0, hc2, hcell⟩ := hb.at_ hn1
    have hcb : c0 = b0 := by simpa using hc0.symm
    subst hcb
    have hcell0 : w.cell? ad = some (.int .u8 (c0 : Int)) := by simpa [Addr.add] using hcell
    clear hcell
    obtain ⟨ab, ao, asp⟩ := ad
    have hspot : asp = none := by simpa using World.cell?_spot hcell0
    subst hspot
    have hnz : ((n : Int) == 0) = false := by simp; omega
    have hi0 : (0 : Int) < (n : Int) := by omega
    by_cases h248 : c0 < 248
    · have hv : gotV (c0 :: r) = .agg #[.int .u64 (c0 : Int), .int .i64 1, .int .i64 0] := by simp [gotV, ntake, h248]
      obtain ⟨acc, hacc⟩ : ∃ acc : Nat → Nat, acc = fun _ => c0 := ⟨_, rfl⟩
      have hacc0 : acc 0 = c0 := by rw [hacc]
      have haccl : ∀ k, k < 0 → acc k < 72057594037927936 := fun k hk => absurd hk (by omega)
      have haccs : ∀ k, k < 0 → ∀ c1, r[k]? = some c1 → acc (k + 1) = 256 * acc k + c1 := fun k hk => absurd hk (by omega)
      obtain ⟨L, hL⟩ : ∃ L, L = (c0 :: r).take (1 + 0) := ⟨_, rfl⟩
      have hbt : Bytes w (some ⟨ab, ao, none⟩) 1 L := by rw [hL]; exact hb.cutTo (by omega)
      have h1cap : (1 : Int) ≤ (cap : Int) := by omega
      have hw11 : IntKind.i64.wrap 1 = 1 := by decide
      have hw12 : IntKind.i64.wrap (1 + 0) = 1 := by decide
      obtain ⟨R, hR⟩ : ∃ R, R = decide (form (acc 0) = L) := ⟨_, rfl⟩
      have hRt : R = true := by rw [hR, hacc0, hL]; simp [form, h248]
      have hgot : gotV (c0 :: r) = if R = true then .agg #[.int .u64 ((acc 0 : Nat) : Int), .int .i64 (1 + (0 : Int)), .int .i64 0] else .agg #[.int .u64 0, .int .i64 0, .int .i64 4] := by
        rw [hRt, hacc0, hv]; simp
      have hx : acc 0 < 2 ^ 64 := by rw [hacc0]; omega
      have HR := Lib.hid hR
      have Hacc0 := Lib.hid hacc0
      have Hgot := Lib.hid hgot
      have Hx := Lib.hid hx
      clear hacc hacc0 hL hR hRt hgot hv hx hln hc0
      go_enter Try.func51, Try.ntmps51
      go_wp2_with fail
      go_loop [4, 5] (fun s4 s5 => ∃ k : Nat, k ≤ 0 ∧ s5 = .int .i64 (k + 1) ∧ s4 = .int .u64 ((acc k : Nat) : Int)) (fun _ s5 => 0 + 1 - (intOf s5).toNat)
      case atStart => exact ⟨0, by omega, rfl, by simp [Hacc0.out]⟩
      case round =>
        obtain ⟨k, hk, rfl, rfl⟩ := hrel
        by_cases hlt : k < 0
        · obtain ⟨ad', c1, e1, hc1, hc3, hcell1⟩ := hb.at_ (show 1 + k < n by omega)
          cases e1
          have hx2 := haccl k hlt
          have hnx := haccs k hlt c1 (by rw [show 1 + k = k + 1 by omega] at hc1; simpa using hc1)
          have hca : w.cell? ⟨ab, ao + (k + 1), none⟩ = some (.int .u8 (c1 : Int)) := by
            have h := hcell1
            rw [Nat.add_comm 1 k] at h
            simpa [Addr.add] using h
          have Hnx := Lib.hid hnx
          clear hnx hc1 hcell1
          generalize acc k = x at *
          have hw1 : IntKind.u64.wrap (256 * (x : Int)) = ((256 * x : Nat) : Int) := by rw [wrap_u64]; omega
          have hw2 : IntKind.u64.wrap (((256 * x : Nat) : Int) + (c1 : Int)) = ((256 * x + c1 : Nat) : Int) := by rw [wrap_u64]; omega
          have hki : (k : Int) + 1 ≤ (0 : Int) := by omega
          have hca2 := cell_alloc (o := .cells #[.int .u64 0, .int .i64 0, .int .i64 0] 93) hca
          go_wp2_with fail
          go_round
          case rel => exact ⟨k + 1, by omega, by go_num, by rw [Hnx.out]; go_num⟩
          case measure => simp [intOf]; omega
        · have hkm : k = 0 := by omega
          have hkm2 : acc k = acc 0 := by rw [hkm]
          rw [hkm2]
          clear hkm hkm2
          have hm1 : (1 : Int) + (0 : Int) ≤ (cap : Int) := by omega
          have hm0 : (0 : Int) ≤ 1 + (0 : Int) := by omega
          have hwm : IntKind.i64.wrap (1 + (0 : Int)) = 1 + (0 : Int) := IntWalk.i64_in _ (by omega)
          have hnm : (1 + (0 : Int)).toNat = 1 + 0 := by omega
          have hkk : ¬ ((k : Int) + 1 ≤ (0 : Int)) := by omega
          generalize acc 0 = x at *
          have hput : ∀ W, Calls Try.prog 41 #[.int .u64 (x : Int)] W (Makes W 5 (form x)) := fun W => refput_any x W Hx.out
          go_upto_region 15 with fail
          go_cut [51] (fun s51 wx => s51 = .bool (!R) ∧ Below w.heap.size w wx ∧ w.heap.size < wx.heap.size ∧ wx.cell? ⟨w.heap.size, 0, none⟩ = some (.int .u64 0) ∧ wx.cell? ⟨w.heap.size, 1, none⟩ = some (.int .i64 0) ∧ wx.cell? ⟨w.heap.size, 2, none⟩ = some (.int .i64 0) ∧ wx.frozen? ⟨w.heap.size, 0, none⟩ = false ∧ wx.frozen? ⟨w.heap.size, 1, none⟩ = false ∧ wx.frozen? ⟨w.heap.size, 2, none⟩ = false)
          case first =>
            have hpre : Below w.heap.size w (w.alloc (.cells #[.int .u64 0, .int .i64 0, .int .i64 0] 93)) := below_one _
            go_region_held3 (fun w' => Below w.heap.size w w' ∧ w.heap.size < w'.heap.size ∧ w'.cell? ⟨w.heap.size, 0, none⟩ = some (.int .u64 0) ∧ w'.cell? ⟨w.heap.size, 1, none⟩ = some (.int .i64 0) ∧ w'.cell? ⟨w.heap.size, 2, none⟩ = some (.int .i64 0) ∧ w'.frozen? ⟨w.heap.size, 0, none⟩ = false ∧ w'.frozen? ⟨w.heap.size, 1, none⟩ = false ∧ w'.frozen? ⟨w.heap.size, 2, none⟩ = false)
              ((go_split_ands; (repeat' apply And.intro) <;> (try simp only [World.cell?_drew, World.frozen?_drew]) <;> (first | with_reducible assumption | (exact cell_keep (by with_reducible assumption) (by with_reducible assumption)) | (exact frozen_keep (by with_reducible assumption) (by with_reducible assumption) (by with_reducible assumption)) | (simp [go_sem, *]; done) | omega | (simp; omega) | ((repeat' first | with_reducible exact Below.refl _ _ | with_reducible assumption | with_reducible refine Below.alloc ?_ ?_ _ | with_reducible refine Below.setCell ?_ ?_ _ | with_reducible apply Below.drew | with_reducible apply below_drewN | with_reducible refine below_call ?_ (by with_reducible assumption) ?_) <;> (first | omega | (simp; done) | (simp; omega) | (simp at *; omega))))))
              (first | (go_at_call 41; (((with_reducible refine (hput _).mono ?_); rintro e w1 ⟨b, rfl, hown, hbw1⟩; have hzw1 := hbw1.size; (try simp at hzw1); obtain ⟨A1, c1, rfl, _, _⟩ := hown.form))) | (go_at_call 14; (((with_reducible refine (same_any _ _ _ _ _ _ (form x) L _ hown.bytes.2.2 (hbt.keep ?hbel)).mono ?_); (case hbel => (go_split_ands; first | with_reducible assumption | ((repeat' first | with_reducible exact Below.refl _ _ | with_reducible assumption | with_reducible refine Below.alloc ?_ ?_ _ | with_reducible refine Below.setCell ?_ ?_ _ | with_reducible apply Below.drew | with_reducible apply below_drewN | with_reducible refine below_call ?_ (by with_reducible assumption) ?_) <;> (first | omega | (simp; done) | (simp; omega) | (simp at *; omega))))); rintro e w2 ⟨rfl, hbw2⟩; have hzw2 := hbw2.size; (try simp at hzw2); rw [← HR.out]))))
            all_goals
              go_wp2_with fail
              go_meet
              refine ⟨rfl, ?_⟩
              go_split_ands
              (repeat' apply And.intro) <;> with_reducible assumption
          case rest =>
            obtain ⟨rfl, hbx, hzx, q0, q1, q2, r0, r1, r2⟩ := hcut
            cases R
            · have Hg := Hgot.out
              simp only [Bool.false_eq_true, if_false] at Hg
              have HG := Lib.hid Hg
              clear Hg
              go_wp2_with fail
              refine bodyPost_ret (v := .agg #[.int .u64 0, .int .i64 0, .int .i64 4]) (by simp [results, Try.results51, go_sem, *]) rfl ?_
              exact ⟨by rw [HG.out], by ((repeat' first | with_reducible exact Below.refl _ _ | with_reducible assumption | with_reducible refine Below.alloc ?_ ?_ _ | with_reducible refine Below.setCell ?_ ?_ _ | with_reducible apply Below.drew | with_reducible apply below_drewN | with_reducible refine below_call ?_ (by with_reducible assumption) ?_) <;> (first | omega | (simp; done) | (simp; omega) | (simp at *; omega)))⟩
            · have Hg := Hgot.out
              simp only [if_true] at Hg
              have HG := Lib.hid Hg
              clear Hg
              go_wp2_with fail
              refine bodyPost_ret (v := .agg #[.int .u64 (x : Int), .int .i64 (1 + (0 : Int)), .int .i64 0]) (by simp [results, Try.results51, go_sem, *]) rfl ?_
              exact ⟨by rw [HG.out], by ((repeat' first | with_reducible exact Below.refl _ _ | with_reducible assumption | with_reducible refine Below.alloc ?_ ?_ _ | with_reducible refine Below.setCell ?_ ?_ _ | with_reducible apply Below.drew | with_reducible apply below_drewN | with_reducible refine below_call ?_ (by with_reducible assumption) ?_) <;> (first | omega | (simp; done) | (simp; omega) | (simp at *; omega)))⟩
    · by_cases hsh : r.length < c0 - 247
      · have hv : gotV (c0 :: r) = .agg #[.int .u64 0, .int .i64 0, .int .i64 2] := by simp [gotV, ntake, h248, hsh]
        rw [hv]
        have hle : (n : Int) < 1 + ((c0 : Int) - 247) := by simp at hln; omega
        clear hv hln hc0
        go_enter Try.func51, Try.ntmps51
        go_wp2_with fail
        refine bodyPost_ret (v := .agg #[.int .u64 0, .int .i64 0, .int .i64 2]) (by simp [results, Try.results51, go_sem, *]) rfl ?_
        exact ⟨rfl, by ((repeat' first | with_reducible exact Below.refl _ _ | with_reducible assumption | with_reducible refine Below.alloc ?_ ?_ _ | with_reducible refine Below.setCell ?_ ?_ _ | with_reducible apply Below.drew | with_reducible apply below_drewN | with_reducible refine below_call ?_ (by with_reducible assumption) ?_) <;> (first | omega | (simp; done) | (simp; omega) | (simp at *; omega)))⟩
      · obtain ⟨m, hm1⟩ : ∃ m, c0 = m + 247 := ⟨c0 - 247, by omega⟩
        subst hm1
        have hm8 : m ≤ 8 := by omega
        have hm0 : 1 ≤ m := by omega
        have hml : m < n := by simp at hln; omega
        have hrl : m ≤ r.length := by omega
        have hbr : ∀ c ∈ r, c < 256 := fun c hc => hb.lt c (by simp [hc])
        obtain ⟨acc, hacc⟩ : ∃ acc : Nat → Nat, acc = fun k => beval (r.take k) := ⟨_, rfl⟩
        have hacc0 : acc 0 = 0 := by rw [hacc]; rfl
        have haccl : ∀ k, k < m → acc k < 72057594037927936 := fun k hk => by
          rw [hacc]
          have hx := beval_lt (r.take k) (fun c hc => hbr c (List.mem_of_mem_take hc))
          have h1 : (r.take k).length = k := by rw [List.length_take]; omega
          rw [h1] at hx
          have := pow7 (k := k) (by omega)
          show beval (r.take k) < _
          omega
        have haccs : ∀ k, k < m → ∀ c1, r[k]? = some c1 → acc (k + 1) = 256 * acc k + c1 := fun k hk c1 hc => by
          rw [hacc]
          show beval (r.take (k + 1)) = 256 * beval (r.take k) + c1
          rw [List.take_add_one, hc, Nat.mul_comm]
          exact beval_snoc _ _
        obtain ⟨L, hL⟩ : ∃ L, L = ((m + 247) :: r).take (1 + m) := ⟨_, rfl⟩
        have hbt : Bytes w (some ⟨ab, ao, none⟩) (1 + m) L := by rw [hL]; exact hb.cutTo (by omega)
        obtain ⟨R, hR⟩ : ∃ R, R = decide (form (acc m) = L) := ⟨_, rfl⟩
        have hfi := form_iff (b0 := m + 247) (r := r) hc2 hbr (by omega) (by omega)
        rw [Nat.add_sub_cancel] at hfi
        have hLm : L = (m + 247) :: r.take m := by rw [hL, Nat.add_comm 1 m]; rfl
        have haccm : acc m = beval (r.take m) := by rw [hacc]
        have hgot : gotV ((m + 247) :: r) = if R = true then .agg #[.int .u64 ((acc m : Nat) : Int), .int .i64 (1 + (m : Int)), .int .i64 0] else .agg #[.int .u64 0, .int .i64 0, .int .i64 4] := by
          have hRi : R = true ↔ size (beval (r.take m)) = 1 + m := by rw [hR, decide_eq_true_iff, haccm, hLm]; exact hfi
          simp only [gotV, ntake, if_neg h248, Nat.add_sub_cancel]
          rw [if_neg (by omega)]
          by_cases hs : size (beval (r.take m)) = 1 + m
          · rw [if_pos hs, if_pos (hRi.2 hs), haccm]; simp
          · rw [if_neg hs, if_neg (fun h => hs (hRi.1 h))]; simp
        have hx : acc m < 2 ^ 64 := by
          rw [haccm]
          have h1 := beval_lt (r.take m) (fun c hc => hbr c (List.mem_of_mem_take hc))
          have h2 : (r.take m).length ≤ 8 := by rw [List.length_take]; omega
          have h3 : 256 ^ (r.take m).length ≤ 256 ^ 8 := Nat.pow_le_pow_right (by decide) h2
          have h4 : 256 ^ 8 = 2 ^ 64 := by decide
          omega
        have HR := Lib.hid hR
        have Hacc0 := Lib.hid hacc0
        have Hgot := Lib.hid hgot
        have Hx := Lib.hid hx
        clear hacc hacc0 hL hR hgot hx hln hc0 hfi hLm haccm
        have hm5 : (m : Int) + 247 - 247 = m := by omega
        go_enter Try.func51, Try.ntmps51
        go_wp2_with fail
        go_loop [4, 5] (fun s4 s5 => ∃ k : Nat, k ≤ m ∧ s5 = .int .i64 (k + 1) ∧ s4 = .int .u64 ((acc k : Nat) : Int)) (fun _ s5 => m + 1 - (intOf s5).toNat)
        case atStart => exact ⟨0, by omega, rfl, by simp [Hacc0.out]⟩
        case round =>
          obtain ⟨k, hk, rfl, rfl⟩ := hrel
          by_cases hlt : k < m
          · obtain ⟨ad', c1, e1, hc1, hc3, hcell1⟩ := hb.at_ (show 1 + k < n by omega)
            cases e1
            have hx2 := haccl k hlt
            have hnx := haccs k hlt c1 (by rw [show 1 + k = k + 1 by omega] at hc1; simpa using hc1)
            have hca : w.cell? ⟨ab, ao + (k + 1), none⟩ = some (.int .u8 (c1 : Int)) := by
              have h := hcell1
              rw [Nat.add_comm 1 k] at h
              simpa [Addr.add] using h
            have Hnx := Lib.hid hnx
            clear hnx hc1 hcell1
            generalize acc k = x at *
            have hw1 : IntKind.u64.wrap (256 * (x : Int)) = ((256 * x : Nat) : Int) := by rw [wrap_u64]; omega
            have hw2 : IntKind.u64.wrap (((256 * x : Nat) : Int) + (c1 : Int)) = ((256 * x + c1 : Nat) : Int) := by rw [wrap_u64]; omega
            have hki : (k : Int) + 1 ≤ (m : Int) := by omega
            have hca2 := cell_alloc (o := .cells #[.int .u64 0, .int .i64 0, .int .i64 0] 93) hca
            go_wp2_with fail
            go_round
            case rel => exact ⟨k + 1, by omega, by go_num, by rw [Hnx.out]; go_num⟩
            case measure => simp [intOf]; omega
          · have hkm : k = m := by omega
            have hkm2 : acc k = acc m := by rw [hkm]
            rw [hkm2]
            clear hkm hkm2
            have hm1 : (1 : Int) + (m : Int) ≤ (cap : Int) := by omega
            have hm0 : (0 : Int) ≤ 1 + (m : Int) := by omega
            have hwm : IntKind.i64.wrap (1 + (m : Int)) = 1 + (m : Int) := IntWalk.i64_in _ (by omega)
            have hnm : (1 + (m : Int)).toNat = 1 + m := by omega
            have hkk : ¬ ((k : Int) + 1 ≤ (m : Int)) := by omega
            generalize acc m = x at *
            have hput : ∀ W, Calls Try.prog 41 #[.int .u64 (x : Int)] W (Makes W 5 (form x)) := fun W => refput_any x W Hx.out
            go_upto_region 15 with fail
            go_cut [51] (fun s51 wx => s51 = .bool (!R) ∧ Below w.heap.size w wx ∧ w.heap.size < wx.heap.size ∧ wx.cell? ⟨w.heap.size, 0, none⟩ = some (.int .u64 0) ∧ wx.cell? ⟨w.heap.size, 1, none⟩ = some (.int .i64 0) ∧ wx.cell? ⟨w.heap.size, 2, none⟩ = some (.int .i64 0) ∧ wx.frozen? ⟨w.heap.size, 0, none⟩ = false ∧ wx.frozen? ⟨w.heap.size, 1, none⟩ = false ∧ wx.frozen? ⟨w.heap.size, 2, none⟩ = false)
            case first =>
              have hpre : Below w.heap.size w (w.alloc (.cells #[.int .u64 0, .int .i64 0, .int .i64 0] 93)) := below_one _
              go_region_held3 (fun w' => Below w.heap.size w w' ∧ w.heap.size < w'.heap.size ∧ w'.cell? ⟨w.heap.size, 0, none⟩ = some (.int .u64 0) ∧ w'.cell? ⟨w.heap.size, 1, none⟩ = some (.int .i64 0) ∧ w'.cell? ⟨w.heap.size, 2, none⟩ = some (.int .i64 0) ∧ w'.frozen? ⟨w.heap.size, 0, none⟩ = false ∧ w'.frozen? ⟨w.heap.size, 1, none⟩ = false ∧ w'.frozen? ⟨w.heap.size, 2, none⟩ = false)
                ((go_split_ands; (repeat' apply And.intro) <;> (try simp only [World.cell?_drew, World.frozen?_drew]) <;> (first | with_reducible assumption | (exact cell_keep (by with_reducible assumption) (by with_reducible assumption)) | (exact frozen_keep (by with_reducible assumption) (by with_reducible assumption) (by with_reducible assumption)) | (simp [go_sem, *]; done) | omega | (simp; omega) | ((repeat' first | with_reducible exact Below.refl _ _ | with_reducible assumption | with_reducible refine Below.alloc ?_ ?_ _ | with_reducible refine Below.setCell ?_ ?_ _ | with_reducible apply Below.drew | with_reducible apply below_drewN | with_reducible refine below_call ?_ (by with_reducible assumption) ?_) <;> (first | omega | (simp; done) | (simp; omega) | (simp at *; omega))))))
                (first | (go_at_call 41; (((with_reducible refine (hput _).mono ?_); rintro e w1 ⟨b, rfl, hown, hbw1⟩; have hzw1 := hbw1.size; (try simp at hzw1); obtain ⟨A1, c1, rfl, _, _⟩ := hown.form))) | (go_at_call 14; (((with_reducible refine (same_any _ _ _ _ _ _ (form x) L _ hown.bytes.2.2 (hbt.keep ?hbel)).mono ?_); (case hbel => (go_split_ands; first | with_reducible assumption | ((repeat' first | with_reducible exact Below.refl _ _ | with_reducible assumption | with_reducible refine Below.alloc ?_ ?_ _ | with_reducible refine Below.setCell ?_ ?_ _ | with_reducible apply Below.drew | with_reducible apply below_drewN | with_reducible refine below_call ?_ (by with_reducible assumption) ?_) <;> (first | omega | (simp; done) | (simp; omega) | (simp at *; omega))))); rintro e w2 ⟨rfl, hbw2⟩; have hzw2 := hbw2.size; (try simp at hzw2); rw [← HR.out]))))
              all_goals
                go_wp2_with fail
                go_meet
                refine ⟨rfl, ?_⟩
                go_split_ands
                (repeat' apply And.intro) <;> with_reducible assumption
            case rest =>
              obtain ⟨rfl, hbx, hzx, q0, q1, q2, r0, r1, r2⟩ := hcut
              cases R
              · have Hg := Hgot.out
                simp only [Bool.false_eq_true, if_false] at Hg
                have HG := Lib.hid Hg
                clear Hg
                go_wp2_with fail
                refine bodyPost_ret (v := .agg #[.int .u64 0, .int .i64 0, .int .i64 4]) (by simp [results, Try.results51, go_sem, *]) rfl ?_
                exact ⟨by rw [HG.out], by ((repeat' first | with_reducible exact Below.refl _ _ | with_reducible assumption | with_reducible refine Below.alloc ?_ ?_ _ | with_reducible refine Below.setCell ?_ ?_ _ | with_reducible apply Below.drew | with_reducible apply below_drewN | with_reducible refine below_call ?_ (by with_reducible assumption) ?_) <;> (first | omega | (simp; done) | (simp; omega) | (simp at *; omega)))⟩
              · have Hg := Hgot.out
                simp only [if_true] at Hg
                have HG := Lib.hid Hg
                clear Hg
                go_wp2_with fail
                refine bodyPost_ret (v := .agg #[.int .u64 (x : Int), .int .i64 (1 + (m : Int)), .int .i64 0]) (by simp [results, Try.results51, go_sem, *]) rfl ?_
                exact ⟨by rw [HG.out], by ((repeat' first | with_reducible exact Below.refl _ _ | with_reducible assumption | with_reducible refine Below.alloc ?_ ?_ _ | with_reducible refine Below.setCell ?_ ?_ _ | with_reducible apply Below.drew | with_reducible apply below_drewN | with_reducible refine below_call ?_ (by with_reducible assumption) ?_) <;> (first | omega | (simp; done) | (simp; omega) | (simp at *; omega)))⟩
end Go.Proofs.Ytekbebekihcnpaa
