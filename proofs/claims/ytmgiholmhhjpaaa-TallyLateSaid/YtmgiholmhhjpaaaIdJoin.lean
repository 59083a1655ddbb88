/- slices.Concat, ids.Join. -/
import Derived.Test.YtmgiholmhhjpaaaIdSet
import Derived.WalkKit
import Derived.WalkSpells
import Derived.WalkLawsBesides
import Derived.Deep.RegionHeld3
import Derived.Deep.DrawnRows
import Derived.Deep.DeepCutAuto
import Derived.Deep.DeepFit
import Derived.Lib.Hide
import Derived.BigQuiet
import Derived.Deep.QuietTactic
namespace Go.Proofs.Ytmgiholmhhjpaaa
open Go.RowKit
set_option linter.unusedVariables false
set_option linter.unusedSimpArgs false
set_option maxRecDepth 20000
attribute [local go_sem ↓] Go.wp_at_zero Go.wp_at_succ
attribute [local go_sem] World.cell?_alloc_some frozen_alloc_some
open Go.Sort Go.Lib

theorem addr_add (b o k : Nat) : (Addr.mk b o none).add k = ⟨b, o + k, none⟩ := by
  unfold Addr.add
  split
  · simp_all
  · rfl
theorem IdsAt.src {w : World} {A : Option Addr} {m : Nat} {l : List IdP} (h : IdsAt w A m l) : Src w 2 A m (flat2 l) :=
  ⟨by rw [flat2_length, h.1], fun j u hu => by
    obtain ⟨i, x, hi, hx⟩ := flat2_inv hu
    obtain ⟨_, _, b, o, e, h1, h2⟩ := h.2.2 i x hi
    refine ⟨_, e, ?_⟩
    rw [addr_add]
    rcases hx with ⟨rfl, rfl⟩ | ⟨rfl, rfl⟩
    · exact h1
    · exact h2, flat2_one⟩
theorem Src.keep2 {w w' : World} {size : Nat} {A : Option Addr} {m : Nat} {news : List Value} (h : Src w size A m news) (hb : Below w.heap.size w w') : Src w' size A m news :=
  ⟨h.1, fun j u hj => by
    obtain ⟨ad, e, hc⟩ := h.2.1 j u hj
    exact ⟨ad, e, cell_keep hb hc⟩, h.2.2⟩
theorem own_form5 {w : World} {base : Nat} {e : TypeId} {size : Nat} {v : Value} {n : Nat} {xs : List Value} (h : w.ownsRow base e size v n xs) : ∃ A c, v = .slice A n c ∧ n ≤ c ∧ c ≤ maxLen := by
  rcases h.2 with ⟨rfl, rfl⟩ | ⟨g, cap, cur, rfl, _, _, hn, hm, _⟩
  · exact ⟨none, 0, rfl, Nat.le_refl _, Nat.zero_le _⟩
  · exact ⟨_, _, rfl, hn, hm⟩
theorem size_zeroCells (z : Array Value) (n : Nat) : (Builtin.zeroCells z n).size = n * z.size := by simp [Builtin.zeroCells]
theorem ids_of_own {w : World} {base : Nat} {e : TypeId} {A : Option Addr} {n c : Nat} {l : List IdP} (h : w.ownsRow base e 2 (.slice A n c) n (flat2 l)) (hm : n ≤ maxLen) (hwf : ∀ x ∈ l, (Lit.int .i64 x.1).wf = true ∧ (Lit.int .i64 x.2).wf = true) :
    IdsAt w A n l ∧ n ≤ c ∧ ∀ ad, A = some ad → ad.spot = none := by
  by_cases hv : (.slice A n c : Value) = .slice none 0 0
  · injection hv with e1 e2 e3
    subst e1 e2 e3
    have hl : l = [] := by
      have := h.1
      rw [flat2_length] at this
      exact List.length_eq_zero_iff.1 (by omega)
    subst hl
    exact ⟨IdsAt.nil, Nat.le_refl _, fun ad h => by cases h⟩
  · obtain ⟨g, cap, e, _, _, hn, _, hl, hr⟩ := row_of_own h hv
    injection e with e1 e2 e3
    subst e1 e3
    exact ⟨hr.ids hl hm (fun _ _ h => h) hwf, hn, fun ad h => by cases h; rfl⟩

theorem grow_any (n : Nat) (W : World) (hn : n ≤ 1000000) :
    Calls Try.prog 29 #[.slice none 0 0, .int .i64 n] W fun e w' => ∃ A c, e = .returned (.slice A 0 c) ∧ w'.ownsRow W.heap.size 42 2 (.slice A 0 c) 0 (flat2 []) ∧ Below W.heap.size W w' := by
  obtain ⟨i0, hi, hz0, hz1, hz2⟩ := idinfo
  by_cases h0 : n = 0
  · subst h0
    have h := Any8.slices_Grow_room Try.growIds none 0 0 0 W (Nat.le_refl _) (by omega) (by omega) (Nat.le_refl _)
    change Calls Try.prog 29 _ _ _ at h
    refine h.mono fun e w' ⟨he, hw⟩ => ⟨none, 0, he, World.ownsRow_nil _ _ _ _, by rw [hw]; exact Below.refl _ _⟩
  · have h := Any8.slices_Grow_grow Try.growIds i0 _ hi hz0 (by omega) none 0 0 n [] W (Nat.le_refl _) (by omega) (by rw [hz2]; omega) (by omega) (by simp) (fun _ => rfl) (fun a h => by cases h)
    change Calls Try.prog 29 _ _ _ at h
    refine h.mono fun e w' ⟨he, hw⟩ => ⟨_, _, he, ?_, ?_⟩
    · have hge := grownCap_ge W (0 + n) 0 (Try.growIds_ren.t 25)
      have hle := grownCap_le_maxLen W (0 + n) 0 (Try.growIds_ren.t 25) (by unfold maxLen; omega)
      rw [hw]
      generalize grownCap W (0 + n) 0 (Try.growIds_ren.t 25) = G at *
      refine ⟨rfl, .inr ⟨W.heap.size, G, _, rfl, Nat.le_refl _, heap_alloc_new W.drew _, Nat.zero_le _, hle, ?_, rfl⟩⟩
      have e2 : (Value.cells (.agg #[.int .i64 0, .int .i64 0])).size = 2 := rfl
      simp only [Array.size_append, size_zeroCells, e2, List.size_toArray, List.length_nil]
      omega
    · rw [hw]; exact ((Below.refl _ _).drew).alloc (Nat.le_refl _) _

set_option maxHeartbeats 4000000 in
theorem concat_any (A A2 : Option Addr) (m c m2 c2 g0 : Nat) (l l2 : List IdP) (w : World) (h1 : IdsAt w A m l) (h2 : IdsAt w A2 m2 l2) (hm : m + m2 ≤ 1000000)
    (q0 : w.cell? ⟨g0, 0, none⟩ = some (.slice A m c)) (q1 : w.cell? ⟨g0, 1, none⟩ = some (.slice A2 m2 c2)) :
    Calls Try.prog 24 #[.slice (some ⟨g0, 0, none⟩) 2 2] w
      fun e w' => ∃ A' c', e = .returned (.slice A' (m + m2) c') ∧ IdsAt w' A' (m + m2) (l ++ l2) ∧ (∀ ad, A' = some ad → ad.spot = none) ∧ Below w.heap.size w w' := by
  have hwf : ∀ x ∈ l ++ l2, (Lit.int .i64 x.1).wf = true ∧ (Lit.int .i64 x.2).wf = true := fun x hx => by
    rcases List.mem_append.1 hx with hx | hx
    · exact h1.wf x hx
    · exact h2.wf x hx
  have Hwf := Lib.hid hwf
  have S1 := Lib.hid h1.src
  have S2 := Lib.hid h2.src
  have hgr := fun W => grow_any (m + m2) W (by omega)
  have Hgr := Lib.hid hgr
  have w1 : IntKind.i64.wrap (0 + (m : Int)) = (m : Int) := by rw [Int.zero_add]; exact IntWalk.i64_in _ (by omega)
  have w1' : IntKind.i64.wrap (m : Int) = (m : Int) := IntWalk.i64_in _ (by omega)
  have w2 : IntKind.i64.wrap ((m : Int) + (m2 : Int)) = ((m + m2 : Nat) : Int) := by rw [show (m : Int) + (m2 : Int) = ((m + m2 : Nat) : Int) by omega]; exact IntWalk.i64_in _ (by omega)
  have n1 : ¬ (m : Int) < 0 := by omega
  have n2 : ¬ ((m + m2 : Nat) : Int) < 0 := by omega
  obtain ⟨M, hM⟩ : ∃ M, M = m + m2 := ⟨_, rfl⟩
  rw [← hM] at w2 n2 Hgr ⊢
  have HM := Lib.hid hM
  clear hwf h1 h2 hgr hM
  go_enter Try.func24, Try.ntmps24
  go_wp2_with fail
  go_loop [3, 11] (fun s3 s11 => (s11 = .int .i64 0 ∧ s3 = .int .i64 0) ∨ (s11 = .int .i64 1 ∧ s3 = .int .i64 m) ∨ (s11 = .int .i64 2 ∧ s3 = .int .i64 M)) (fun _ s11 => 2 - (intOf s11).toNat)
  case atStart => exact .inl ⟨rfl, rfl⟩
  case round =>
    rcases hrel with ⟨rfl, rfl⟩ | ⟨rfl, rfl⟩ | ⟨rfl, rfl⟩
    · go_wp2_with fail
      go_round
      case rel => exact .inr (.inl ⟨rfl, rfl⟩)
      case measure => simp [intOf]
    · go_wp2_with fail
      go_round
      case rel => exact .inr (.inr ⟨rfl, by simp⟩)
      case measure => simp [intOf]
    · go_wp2_with (go_at_call 29; refine (Hgr.out _).mono ?_; rintro e w3 ⟨A3, c3, rfl, hown, hb3⟩; have O3 := Lib.hid hown; clear hown)
      go_loopw [6, 27] (fun s6 s27 wr => ∃ A' c', (s27 = .int .i64 0 ∧ s6 = .slice A' 0 c' ∧ wr.ownsRow w.heap.size 42 2 (.slice A' 0 c') 0 (flat2 []) ∨ s27 = .int .i64 1 ∧ s6 = .slice A' m c' ∧ wr.ownsRow w.heap.size 42 2 (.slice A' m c') m (flat2 l) ∨ s27 = .int .i64 2 ∧ s6 = .slice A' M c' ∧ wr.ownsRow w.heap.size 42 2 (.slice A' M c') M (flat2 (l ++ l2))) ∧ Below w.heap.size w wr) (fun _ s27 _ => 2 - (intOf s27).toNat)
      case atStart => exact ⟨A3, c3, .inl ⟨rfl, rfl, O3.out⟩, hb3⟩
      case round =>
        obtain ⟨i0, hi, hz0, hz1, hz2⟩ := idinfo
        obtain ⟨A', c', hst, hbr⟩ := hrel
        have hzr := hbr.size
        have p0 := cell_keep hbr q0
        have p1 := cell_keep hbr q1
        rcases hst with ⟨rfl, rfl, hown⟩ | ⟨rfl, rfl, hown⟩ | ⟨rfl, rfl, hown⟩
        · have hsrc := S1.out.keep2 hbr
          go_wp2_with (at_builtin; go_loud (refine wpList_app _ rfl (.tmp 31) (.tmp 32) 22 rfl _ 42 i0 _ 2 16 Try.underlying22 hi hz0 hz1 hz2 rfl (by omega) _ _ _ rfl hown _ _ _ _ rfl hsrc ?h63 ?hby ?hbase ?_); (case h63 => (unfold maxLen; first | omega | (simp; done) | (simp; omega))); (case hby => first | omega | (simp; done) | (simp; omega)); (case hbase => first | omega | (simp; done) | (simp; omega)); intro v2 w2' hownw2' hgroww2' hatw2' holdw2')
          have hb2 := below_app hbr hown hgroww2' (Nat.le_refl _) hzr
          have hown2 : w2'.ownsRow w.heap.size 42 2 v2 m (flat2 l) := by simpa [flat2] using hownw2'
          obtain ⟨A4, c4, rfl, _, _⟩ := own_form5 hown2
          go_roundw
          case rel => exact ⟨A4, c4, .inr (.inl ⟨rfl, rfl, hown2⟩), hb2⟩
          case measure => simp [intOf]
        · have hsrc := S2.out.keep2 hbr
          go_wp2_with (at_builtin; go_loud (refine wpList_app _ rfl (.tmp 31) (.tmp 32) 22 rfl _ 42 i0 _ 2 16 Try.underlying22 hi hz0 hz1 hz2 rfl (by omega) _ _ _ rfl hown _ _ _ _ rfl hsrc ?h63 ?hby ?hbase ?_); (case h63 => (unfold maxLen; first | omega | (simp; done) | (simp; omega))); (case hby => first | omega | (simp; done) | (simp; omega)); (case hbase => first | omega | (simp; done) | (simp; omega)); intro v2 w2' hownw2' hgroww2' hatw2' holdw2')
          have hb2 := below_app hbr hown hgroww2' (Nat.le_refl _) hzr
          have hown2 : w2'.ownsRow w.heap.size 42 2 v2 M (flat2 (l ++ l2)) := by rw [flat2_append, HM.out]; exact hownw2'
          obtain ⟨A4, c4, rfl, _, _⟩ := own_form5 hown2
          go_roundw
          case rel => exact ⟨A4, c4, .inr (.inr ⟨rfl, rfl, hown2⟩), hb2⟩
          case measure => simp [intOf]
        · clear hi hz0 hz1 hz2
          go_wp2_with fail
          go_ret
          obtain ⟨r1, _, r3⟩ := ids_of_own hown (by have := HM.out; unfold maxLen; omega) Hwf.out
          exact ⟨A', c', rfl, r1, r3, hbr⟩

set_option maxHeartbeats 1000000 in
theorem join_any (A A2 : Option Addr) (m c m2 c2 : Nat) (l l2 : List IdP) (w : World) (h1 : IdsAt w A m l) (h2 : IdsAt w A2 m2 l2) (hm : m + m2 ≤ 1000000) :
    Calls Try.prog 19 #[.slice A m c, .slice A2 m2 c2] w
      fun e w' => ∃ A' c', e = .returned (.slice A' (idSet (l ++ l2)).length c') ∧ (idSet (l ++ l2)).length ≤ c' ∧ IdsAt w' A' (idSet (l ++ l2)).length (idSet (l ++ l2)) ∧ Fresh w.heap.size A' ∧ Below w.heap.size w w' := by
  have hc := fun g0 W (hb : Below w.heap.size w W) => concat_any A A2 m c m2 c2 g0 l l2 W (h1.keep hb) (h2.keep hb) hm
  have Hc := Lib.hid hc
  have hs := fun A3 c3 W h3 h4 => set_any A3 (m + m2) c3 (l ++ l2) W h3 hm h4
  have Hs := Lib.hid hs
  clear hc hs h1 h2
  go_enter Try.func19, Try.ntmps19
  go_wp2_with (first | (go_at_call 24; refine (Hc.out _ _ (by ((repeat' first | with_reducible exact Below.refl _ _ | with_reducible assumption | with_reducible refine Below.alloc ?_ ?_ _ | with_reducible refine Below.setCell ?_ ?_ _ | with_reducible apply Below.drew | with_reducible apply below_drewN | with_reducible refine below_call ?_ (by with_reducible assumption) ?_) <;> (first | omega | (simp; done) | (simp; omega) | (simp at *; omega)))) ?h0 ?h1).mono ?_; (case h0 => simp [go_sem]); (case h1 => simp [go_sem]); rintro e w1 ⟨A3, c3, rfl, hI, hsp, hb1⟩; have I1 := Lib.hid hI; have Sp := Lib.hid hsp; clear hI hsp; have hz1 := hb1.size; (try simp at hz1)) | (go_at_call 23; refine (Hs.out _ _ _ I1.out Sp.out).mono ?_; rintro e w2 ⟨A4, c4, rfl, hkc, hI2, hF2, hb2⟩; have I2 := Lib.hid hI2; have F2 := Lib.hid hF2; clear hI2 hF2; have hz2 := hb2.size; (try simp at hz2)))
  go_ret
  exact ⟨A4, c4, rfl, hkc, I2.out, F2.out.mono (by omega), by ((repeat' first | with_reducible exact Below.refl _ _ | with_reducible assumption | with_reducible refine Below.alloc ?_ ?_ _ | with_reducible refine Below.setCell ?_ ?_ _ | with_reducible apply Below.drew | with_reducible apply below_drewN | with_reducible refine below_call ?_ (by with_reducible assumption) ?_) <;> (first | omega | (simp; done) | (simp; omega) | (simp at *; omega)))⟩
end Go.Proofs.Ytmgiholmhhjpaaa
