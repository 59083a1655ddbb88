/- The walk of the law TallyLate. -/
import Derived.Test.YtmgiholmhhjpaaaLateA
import Derived.Test.YtmgiholmhhjpaaaPreAcc
import Derived.Test.YtmgiholmhhjpaaaReg4
import Derived.WalkKit
import Derived.WalkSpells
import Derived.WalkLawsBesides
import Derived.Deep.RegionHeld3
import Derived.Deep.DrawnRows
import Derived.Deep.DeepCutAuto
import Derived.Deep.DeepFit
import Derived.Lib.Hide
import Derived.BigQuiet
import Derived.Deep.QuietTactic
import Derived.Deep.RegionHeld3
namespace Go.Proofs.Ytmgiholmhhjpaaa
open Go.RowKit
set_option linter.unusedVariables false
set_option linter.unusedSimpArgs false
set_option maxRecDepth 20000
attribute [local go_sem ↓] Go.wp_at_zero Go.wp_at_succ
attribute [local go_sem] World.cell?_alloc_some frozen_alloc_some

/-- What tally.Pre is asked, and what it does. -/
abbrev PreC (w : World) (n : Int) (A A2 : Option Addr) (m c K c2 : Nat) (q t : Int) (T : World → Prop) (b1 b2 : Bool) (d : Int) : Prop :=
  ∀ W, T W → Calls Try.prog 6 #[.int .i64 n, .agg #[.slice A m c, .int .i64 q, .int .i64 t], .slice A2 K c2, .bool b1, .bool b2] W
    (fun e w' => ∃ A' m' c' q' t', e = .returned (decV d A' m' c' q' t') ∧ Below W.heap.size W w')
def zdecC : Array Value := #[.int .i64 0, .int .i64 0, .int .i64 0, .int .i64 0, .string ⟨#[]⟩, .string ⟨#[]⟩, .int .i64 0, .slice none 0 0, .int .i64 0, .int .i64 0]
structure TL (w : World) (A : Option Addr) (m c : Nat) (q t : Int) (l : List IdP) (A9 : Option Addr) (K : Nat) (W : World) : Prop where
  hb : Below w.heap.size w W
  box : Blk W w.heap.size 24 #[.slice A m c, .int .i64 q, .int .i64 t]
  att : AttrsAt W A9 K (List.replicate K ⟨A, m, c, q, t, l⟩)
  ids : IdsAt W A m l
theorem TL.keep {w W W' : World} {A : Option Addr} {m c : Nat} {q t : Int} {l : List IdP} {A9 : Option Addr} {K : Nat} (h : TL w A m c q t l A9 K W) (hb : Below W.heap.size W W') : TL w A m c q t l A9 K W' :=
  ⟨below_call h.hb hb h.hb.size, h.box.keep hb, h.att.keep hb, h.ids.keep hb⟩
theorem TL.sz {w W : World} {A : Option Addr} {m c : Nat} {q t : Int} {l : List IdP} {A9 : Option Addr} {K : Nat} (h : TL w A m c q t l A9 K W) : w.heap.size + 1 ≤ W.heap.size := h.box.lt
attribute [local go_sem ↓ high] storeVar_dec
set_option maxHeartbeats 8000000 in
theorem late_walk (f : Int) (A : Option Addr) (m c : Nat) (q t : Int) (l : List IdP) (o : Int) (w : World) (hf : (Lit.int .u8 f).wf = true) (ho : (Lit.int .u8 o).wf = true) (h1 : IdsAt w A m l) :
    Calls Try.prog 3 #[.int .u8 f, .agg #[.slice A m c, .int .i64 q, .int .i64 t], .int .u8 o] w (Gives w (.bool true)) := by
  have hf' := wf_u8 hf
  have ho' := wf_u8 ho
  clear hf ho
  obtain ⟨N, hN, hN3⟩ : ∃ N : Nat, (N : Int) = 3 + 2 * (f % 3) ∧ (N = 3 ∨ N = 5 ∨ N = 7) := ⟨(3 + 2 * (f % 3)).toNat, by omega, by omega⟩
  have hrem : f.tmod 3 = f % 3 := Int.tmod_eq_emod_of_nonneg hf'.1
  have hw0 : IntKind.i64.wrap f = f := IntWalk.i64_in _ (by omega)
  have hw1 : IntKind.i64.wrap (f % 3) = f % 3 := IntWalk.i64_in _ (by omega)
  have hw2 : IntKind.i64.wrap (2 * (f % 3)) = 2 * (f % 3) := IntWalk.i64_in _ (by omega)
  have hw3 : IntKind.i64.wrap (3 + 2 * (f % 3)) = N := by rw [hN]; exact IntWalk.i64_in _ (by omega)
  obtain ⟨K, hK, hKN⟩ : ∃ K : Nat, (K : Int) = o % N ∧ K < N := ⟨(o % N).toNat, by
    have : (0:Int) < N := by omega
    have := Int.emod_nonneg o (b := N) (by omega)
    omega, by
    have h := Int.emod_lt_of_pos o (b := N) (by omega)
    have := Int.emod_nonneg o (b := N) (by omega)
    omega⟩
  have hrem2 : o.tmod N = K := by rw [hK]; exact Int.tmod_eq_emod_of_nonneg ho'.1
  have hw4 : IntKind.i64.wrap o = o := IntWalk.i64_in _ (by omega)
  have hw5 : IntKind.i64.wrap (K : Int) = K := IntWalk.i64_in _ (by omega)
  have hN0 : ((N : Int) == 0) = false := by simp; omega
  have hN0' : ((N : Int) = 0) = False := by simp; omega
  have haw := fun W => awake24 W
  have hck := fun W (hb : Below w.heap.size w W) => attrcheck_any A m c q t l W (h1.keep hb)
  have B0 : Blk (w.alloc (.cells #[.slice A m c, .int .i64 q, .int .i64 t] 24)) w.heap.size 24 #[.slice A m c, .int .i64 q, .int .i64 t] := Blk.new w _ _
  have k0 : Below w.heap.size w (w.alloc (.cells #[.slice A m c, .int .i64 q, .int .i64 t] 24)) := below_one _
  by_cases g1 : 40 < m
  · have g1' : (40 : Int) < (m : Int) := by omega
    clear h1 hN hK hck
    have B0c := B0.cell
    go_enter Try.func3, Try.ntmps3
    go_wp2_with (go_at_call 5; (with_reducible refine (haw _).mono ?_); rintro e w9 ⟨rfl, hb9⟩; have hz9 := hb9.size; (try simp at hz9))
    go_ret
    exact ⟨rfl, by ((repeat' first | with_reducible exact Below.refl _ _ | with_reducible assumption | with_reducible refine Below.alloc ?_ ?_ _ | with_reducible refine Below.setCell ?_ ?_ _ | with_reducible apply Below.drew | with_reducible apply below_drewN | with_reducible refine below_call ?_ (by with_reducible assumption) ?_) <;> (first | omega | (simp; done) | (simp; omega) | (simp at *; omega)))⟩
  have g1' : ¬ (40 : Int) < (m : Int) := by omega
  by_cases g2 : acheck ⟨l, q, t⟩ = 0
  case neg =>
    obtain ⟨e2, he2⟩ : ∃ e2 : Int, e2 = (acheck ⟨l, q, t⟩ : Int) := ⟨_, rfl⟩
    have g2' : (e2 != (0 : Int)) = true := by simp; omega
    rw [← he2] at hck
    clear h1 hN hK g2 he2
    have B0c := B0.cell
    go_enter Try.func3, Try.ntmps3
    go_wp2_with (first | (go_at_call 5; (with_reducible refine (haw _).mono ?_); rintro e w9 ⟨rfl, hb9⟩; have hz9 := hb9.size; (try simp at hz9)) | (go_at_call 4; (with_reducible refine (hck _ (by ((repeat' first | with_reducible exact Below.refl _ _ | with_reducible assumption | with_reducible refine Below.alloc ?_ ?_ _ | with_reducible refine Below.setCell ?_ ?_ _ | with_reducible apply Below.drew | with_reducible apply below_drewN | with_reducible refine below_call ?_ (by with_reducible assumption) ?_) <;> (first | omega | (simp; done) | (simp; omega) | (simp at *; omega))))).mono ?_); rintro e w1 ⟨rfl, hb1⟩; have hz1 := hb1.size; (try simp at hz1); have k1 := below_call k0 hb1 (by simp); have B1 := B0.keep hb1; have B1c := B1.cell))
    go_ret
    exact ⟨rfl, by ((repeat' first | with_reducible exact Below.refl _ _ | with_reducible assumption | with_reducible refine Below.alloc ?_ ?_ _ | with_reducible refine Below.setCell ?_ ?_ _ | with_reducible apply Below.drew | with_reducible apply below_drewN | with_reducible refine below_call ?_ (by with_reducible assumption) ?_) <;> (first | omega | (simp; done) | (simp; omega) | (simp at *; omega)))⟩
  rw [g2] at hck
  have B0c := B0.cell
  have HN := Lib.hid hN
  have HK := Lib.hid hK
  have H1 := Lib.hid h1
  have G2 := Lib.hid g2
  clear hN hK h1 g2
  go_enter Try.func3, Try.ntmps3
  go_wp2_with (go_at_call 4; (with_reducible refine (hck _ (by ((repeat' first | with_reducible exact Below.refl _ _ | with_reducible assumption | with_reducible refine Below.alloc ?_ ?_ _ | with_reducible refine Below.setCell ?_ ?_ _ | with_reducible apply Below.drew | with_reducible apply below_drewN | with_reducible refine below_call ?_ (by with_reducible assumption) ?_) <;> (first | omega | (simp; done) | (simp; omega) | (simp at *; omega))))).mono ?_); rintro e w1 ⟨rfl, hb1⟩; have hz1 := hb1.size; (try simp at hz1); have k1 := below_call k0 hb1 (by simp); have B1 := B0.keep hb1; have B1c := B1.cell)
  obtain ⟨i0, hi, hz0, hz1', hz2⟩ := attrinfo
  have hK7 : K ≤ 7 := by omega
  have B1x := B1
  clear B1c B0c B0 hck
  go_loopw [9, 10] (fun s9 s10 wr => ∃ (j : Nat) (A9 : Option Addr) (c9 : Nat), j ≤ K ∧ s9 = .slice A9 j c9 ∧ s10 = .int .i64 j ∧ Below w.heap.size w wr ∧ Blk wr w.heap.size 24 #[.slice A m c, .int .i64 q, .int .i64 t] ∧ wr.ownsRow (w.heap.size + 1) 24 3 (.slice A9 j c9) j (cop [.slice A m c, .int .i64 q, .int .i64 t] j)) (fun _ s10 _ => K - (intOf s10).toNat)
  case atStart => exact ⟨0, none, 0, by omega, rfl, rfl, k1, B1, World.ownsRow_nil _ _ _ _⟩
  case round =>
    obtain ⟨j, A9, c9, hj, rfl, rfl, hbr, hB, hown⟩ := hrel
    have hzr := hB.lt
    have Bc := hB.cell
    by_cases hlt : j < K
    · have j1 : (j : Int) < (K : Int) := by omega
      have hown0 := hown.alloc (.cells #[.slice A m c, .int .i64 q, .int .i64 t] 24)
      go_wp2_with (at_builtin; go_loud (refine wpList_app _ rfl (.tmp 40) (.tmp 42) 28 rfl _ 24 i0 _ 3 40 Try.underlying28 hi hz0 hz1' hz2 rfl (by omega) _ _ _ rfl hown0 _ _ _ _ rfl (src_three (by rfl) (by rfl) (by rfl)) ?h63 ?hby ?hbase ?_); (case h63 => (unfold maxLen; first | omega | (simp; done) | (simp; omega))); (case hby => first | omega | (simp; done) | (simp; omega)); (case hbase => first | omega | (simp; done) | (simp; omega)); intro v9 w9 hownw9 hgroww9 hatw9 holdw9)
      obtain ⟨A8, c8, rfl, _, _⟩ := own_form9 hownw9
      go_roundw
      case rel => exact ⟨j + 1, A8, c8, by omega, rfl, by go_num, below_app (hbr.alloc hbr.size _) hown0 hgroww9 (by omega) (by simp; omega), (hgroww9.block _ (hB.alloc _).lt (fun e => by have := (hown0.lt _ e.symm).1; omega)).trans (hB.alloc _), by simpa [cop] using hownw9⟩
      case measure => simp [intOf]; omega
    · obtain rfl : j = K := by omega
      have j1 : ¬ (j : Int) < (j : Int) := by omega
      have PT : TL w A m c q t l A9 j wr := ⟨hbr, hB, attrs_cop (x := ⟨A, m, c, q, t, l⟩) hown (H1.out.keep hbr) (by unfold maxLen; omega), H1.out.keep hbr⟩
      clear hown hB hbr Bc hzr B1 B1x k1 k0 H1
      have hNwf : (Lit.int .i64 (N : Int)).wf = true := by rcases hN3 with h | h | h <;> subst h <;> decide
      obtain ⟨Qn, hQ, hQ2⟩ : ∃ Qn : Nat, quo (N : Int) = (Qn : Int) ∧ 2 * Qn = N + 1 := by
        rcases hN3 with h | h | h <;> subst h
        · exact ⟨2, rfl, rfl⟩
        · exact ⟨3, rfl, rfl⟩
        · exact ⟨4, rfl, rfl⟩
      have hqu := fun W => quorum_any (N : Int) W hNwf
      have hac := fun W => acc_any (N : Int) (j : Int) W hNwf (by omega) (by omega) (by omega)
      rw [hQ] at hqu hac
      have hDD : ∃ (d1 d2 d3 : Int) (al so : Bool), PreC w N A A9 m c j c9 q t (TL w A m c q t l A9 j) true false d1 ∧ PreC w N A A9 m c j c9 q t (TL w A m c q t l A9 j) true true d2 ∧ PreC w N A A9 m c j c9 q t (TL w A m c q t l A9 j) false false d3 ∧ ((((j : Int) + 1 == (N : Int)) = al) ∧ (decide ((Qn : Int) ≤ (j : Int) + 1) = so) ∧ (((Qn : Int) ≤ (j : Int) + 1) = (so = true))) ∧
          ((d1 = 1 ∧ d2 = 1 ∧ d3 = 2 ∧ al = true ∧ so = true) ∨ (d1 = 0 ∧ d2 = 0 ∧ d3 = 0 ∧ al = false ∧ so = false) ∨ (d1 = 0 ∧ d2 = 2 ∧ d3 = 2 ∧ al = false ∧ so = true)) := by
        have hsm := allsame_cop (x := ⟨A, m, c, q, t, l⟩) (j := j)
        have pp : ∀ (i : Nat) (a : AttrT), (List.replicate j (⟨A, m, c, q, t, l⟩ : AttrT))[i]? = some a → a.p = ⟨l, q, t⟩ := fun i a hi => by
          rw [List.getElem?_replicate] at hi
          split at hi
          · injection hi with hi; rw [← hi]; rfl
          · cases hi
        have ex : ∀ {W : World} {b1 b2 : Bool} {d : Int} {A' : Option Addr} {m' c' : Nat} {q' t' : Int}, Calls Try.prog 6 #[.int .i64 N, .agg #[.slice A m c, .int .i64 q, .int .i64 t], .slice A9 j c9, .bool b1, .bool b2] W (Gives W (decV d A' m' c' q' t')) → Calls Try.prog 6 #[.int .i64 N, .agg #[.slice A m c, .int .i64 q, .int .i64 t], .slice A9 j c9, .bool b1, .bool b2] W (fun e w' => ∃ A' m' c' q' t', e = .returned (decV d A' m' c' q' t') ∧ Below W.heap.size W w') := fun h => h.mono fun e w' ⟨h1, h2⟩ => ⟨_, _, _, _, _, h1, h2⟩
        have ex2 : ∀ {W : World} {b1 b2 : Bool} {d : Int}, Calls Try.prog 6 #[.int .i64 N, .agg #[.slice A m c, .int .i64 q, .int .i64 t], .slice A9 j c9, .bool b1, .bool b2] W (fun e w' => ∃ A' c', e = .returned (decV d A' m c' q t) ∧ Below W.heap.size W w') → Calls Try.prog 6 #[.int .i64 N, .agg #[.slice A m c, .int .i64 q, .int .i64 t], .slice A9 j c9, .bool b1, .bool b2] W (fun e w' => ∃ A' m' c' q' t', e = .returned (decV d A' m' c' q' t') ∧ Below W.heap.size W w') := fun h => h.mono fun e w' ⟨_, _, h1, h2⟩ => ⟨_, _, _, _, _, h1, h2⟩
        by_cases x1 : (j : Int) + 1 = N
        · exact ⟨1, 1, 2, true, true, fun W h => ex (pre_commit N A A9 m c j c9 q t l _ false W h.ids h.att hsm (by omega) (by omega) (by omega)), fun W h => ex (pre_commit N A A9 m c j c9 q t l _ true W h.ids h.att hsm (by omega) (by omega) (by omega)),
            fun W h => ex2 (pre_accept N A A9 m c j c9 q t l _ false false W h.ids h.att G2.out pp hsm (by omega) (by omega) hNwf (by simp) (by rw [hQ]; omega) (by simp)), ⟨by simp [x1], by simp; omega, by simp; omega⟩, .inl ⟨rfl, rfl, rfl, rfl, rfl⟩⟩
        · by_cases x2 : (j : Int) + 1 < Qn
          · exact ⟨0, 0, 0, false, false, fun W h => ex (pre_wait N A A9 m c j c9 q t l _ true false true W h.ids h.att hsm (by omega) (by omega) hNwf (by simp; omega) (.inl (by rw [hQ]; omega))), fun W h => ex (pre_wait N A A9 m c j c9 q t l _ true true true W h.ids h.att hsm (by omega) (by omega) hNwf (by simp; omega) (.inl (by rw [hQ]; omega))),
              fun W h => ex (pre_wait N A A9 m c j c9 q t l _ false false true W h.ids h.att hsm (by omega) (by omega) hNwf (by simp) (.inl (by rw [hQ]; omega))), ⟨by simp [x1], by simp; omega, by simp; omega⟩, .inr (.inl ⟨rfl, rfl, rfl, rfl, rfl⟩)⟩
          · exact ⟨0, 2, 2, false, true, fun W h => ex (pre_wait N A A9 m c j c9 q t l _ true false true W h.ids h.att hsm (by omega) (by omega) hNwf (by simp; omega) (.inr ⟨rfl, rfl, rfl⟩)), fun W h => ex2 (pre_accept N A A9 m c j c9 q t l _ true true W h.ids h.att G2.out pp hsm (by omega) (by omega) hNwf (by simp; omega) (by rw [hQ]; omega) (by simp)),
              fun W h => ex2 (pre_accept N A A9 m c j c9 q t l _ false false W h.ids h.att G2.out pp hsm (by omega) (by omega) hNwf (by simp) (by rw [hQ]; omega) (by simp)), ⟨by simp [x1], by simp; omega, by simp; omega⟩, .inr (.inr ⟨rfl, rfl, rfl, rfl, rfl⟩)⟩
      obtain ⟨d1, d2, d3, al, so, hP1, hP2, hP3, ⟨hal, hso, hso2⟩, hD⟩ := hDD
      rw [hso] at hac
      have P1 := Lib.hid hP1
      have P2 := Lib.hid hP2
      have P3 := Lib.hid hP3
      have HD := Lib.hid hD
      have hw6 : IntKind.i64.wrap ((j : Int) + 1) = (j : Int) + 1 := IntWalk.i64_in _ (by omega)
      clear hP1 hP2 hP3 hD hQ hQ2 hNwf
      go_upto_region 10 with fail
      replace PT := PT.keep (Below.refl _ _).drew
      (refine wp_region_held_drew (S := (S1 w.heap.size #[.slice A m c, .int .i64 q, .int .i64 t])) (by kernel_rfl) ?_ (fun hHeld => ?_); (· exact PT.box.cell))
      (refine take_op (i := 0) (v := ?_) rfl (by kernel_rfl) (by kernel_rfl) (by kernel_rfl) (fun _ _ _ h => h) (by rfl) ?_ hHeld ?_; rotate_left; (· (intro wS hSw; (try dsimp only at hSw); go_simp; first | done | with_reducible rfl)); simp only [Act.put, List.setIfInBounds_toArray, List.set_cons_zero, List.set_cons_succ]); (refine take_op (i := 1) (v := ?_) rfl (by kernel_rfl) (by kernel_rfl) (by kernel_rfl) (fun _ _ _ h => h) (by rfl) ?_ hHeld ?_; rotate_left; (· (intro wS hSw; (try dsimp only at hSw); go_simp; first | done | with_reducible rfl)); simp only [Act.put, List.setIfInBounds_toArray, List.set_cons_zero, List.set_cons_succ]); (refine take_op (i := 2) (v := ?_) rfl (by kernel_rfl) (by kernel_rfl) (by kernel_rfl) (fun _ _ _ h => h) (by rfl) ?_ hHeld ?_; rotate_left; (· (intro wS hSw; (try dsimp only at hSw); go_simp; first | done | with_reducible rfl)); simp only [Act.put, List.setIfInBounds_toArray, List.set_cons_zero, List.set_cons_succ]); (refine take_op (i := 4) (v := ?_) rfl (by kernel_rfl) (by kernel_rfl) (by kernel_rfl) (fun _ _ _ h => h) (by rfl) ?_ hHeld ?_; rotate_left; (· (intro wS hSw; (try dsimp only at hSw); go_simp; first | done | with_reducible rfl)); simp only [Act.put, List.setIfInBounds_toArray, List.set_cons_zero, List.set_cons_succ]); (refine take_op (i := 5) (v := ?_) rfl (by kernel_rfl) (by kernel_rfl) (by kernel_rfl) (fun _ _ _ h => h) (by rfl) ?_ hHeld ?_; rotate_left; (· (intro wS hSw; (try dsimp only at hSw); go_simp; first | done | with_reducible rfl)); simp only [Act.put, List.setIfInBounds_toArray, List.set_cons_zero, List.set_cons_succ]); (refine take_op (i := 6) (v := ?_) rfl (by kernel_rfl) (by kernel_rfl) (by kernel_rfl) (fun _ _ _ h => h) (by rfl) ?_ hHeld ?_; rotate_left; (· (intro wS hSw; (try dsimp only at hSw); go_simp; first | done | with_reducible rfl)); simp only [Act.put, List.setIfInBounds_toArray, List.set_cons_zero, List.set_cons_succ]); (refine take_op (i := 8) (v := ?_) rfl (by kernel_rfl) (by kernel_rfl) (by kernel_rfl) (fun _ _ _ h => h) (by rfl) ?_ hHeld ?_; rotate_left; (· (intro wS hSw; (try dsimp only at hSw); go_simp; first | done | with_reducible rfl)); simp only [Act.put, List.setIfInBounds_toArray, List.set_cons_zero, List.set_cons_succ]); (refine take_op (i := 9) (v := ?_) rfl (by kernel_rfl) (by kernel_rfl) (by kernel_rfl) (fun _ _ _ h => h) (by rfl) ?_ hHeld ?_; rotate_left; (· (intro wS hSw; (try dsimp only at hSw); go_simp; first | done | with_reducible rfl)); simp only [Act.put, List.setIfInBounds_toArray, List.set_cons_zero, List.set_cons_succ]); (refine take_op (i := 10) (v := ?_) rfl (by kernel_rfl) (by kernel_rfl) (by kernel_rfl) (fun _ _ _ h => h) (by rfl) ?_ hHeld ?_; rotate_left; (· (intro wS hSw; (try dsimp only at hSw); go_simp; first | done | with_reducible rfl)); simp only [Act.put, List.setIfInBounds_toArray, List.set_cons_zero, List.set_cons_succ])
      revert PT
      generalize World.drew _ = w0
      intro PT
      generalize hF : wpAnyH _ _ _ _ _ = F
      generalize hA0 : Act.mk _ _ = A0
      generalize hfu : List.length _ = fu
      generalize hL0 : Array.setIfInBounds _ _ _ = L0
      obtain rfl : fu = 9 := by rw [← hfu]; rfl
      have hL : L0 = #[true, true, true, false, true, true, true, false, true, true, true, false, false, false, false, false, false, false] := by rw [← hL0]; kernel_rfl
      clear hL0 hfu
      subst hL
      have HF := Lib.hid hF
      have HA0 := Lib.hid hA0
      clear hF hA0
      have st3_121314 : Hid (∀ (W : World) (PT : TL w A m c q t l A9 j W) (g12 : Nat) (Z12 : Blk W g12 32 zdecC) (L12 : w.heap.size + 1 ≤ g12) (g13 : Nat) (Z13 : Blk W g13 32 zdecC) (L13 : w.heap.size + 1 ≤ g13) (g14 : Nat) (Z14 : Blk W g14 32 zdecC) (L14 : w.heap.size + 1 ≤ g14) (n1213 : g12 ≠ g13) (n1214 : g12 ≠ g14) (n1314 : g13 ≠ g14) (X0 : Option Addr) (m0 c0 : Nat) (q0 t0 : Int) (X1 : Option Addr) (m1 c1 : Nat) (q1 t1 : Int) (X2 : Option Addr) (m2 c2 : Nat) (q2 t2 : Int), F 3 #[true, true, true, true, true, true, true, true, true, true, true, true, true, true, true, false, false, false] ((((((A0.put (some 11) (.pointer (some ⟨g12, 0, none⟩))).put (some 12) (.pointer (some ⟨g13, 0, none⟩))).put (some 13) (.pointer (some ⟨g14, 0, none⟩))).put (some 47) (decV d1 X0 m0 c0 q0 t0)).put (some 51) (decV d2 X1 m1 c1 q1 t1)).put (some 55) (decV d3 X2 m2 c2 q2 t2)) W) := Lib.hid (by
        intro W PT g12 Z12 L12 g13 Z13 L13 g14 Z14 L14 n1213 n1214 n1314 X0 m0 c0 q0 t0 X1 m1 c1 q1 t1 X2 m2 c2 q2 t2
        rw [← HF.out, ← HA0.out]
        try simp only [Act.put, List.setIfInBounds_toArray, List.set_cons_zero, List.set_cons_succ]
        have hHeld := PT.box.cell
        (have s12 := dec_store Z12 rfl d1 X0 m0 c0 q0 t0; have box1 := PT.box.decSet_far (cs' := decC d1 X0 m0 c0 q0 t0) (g := g12) (by omega); have bel1 := below_decSet PT.hb (g := g12) (by omega) (decC d1 X0 m0 c0 q0 t0); have Z12p := Z12.decSet (cs' := decC d1 X0 m0 c0 q0 t0) rfl; have Z13p := Z13.decSet_far (cs' := decC d1 X0 m0 c0 q0 t0) (g := g12) (by omega); have Z14p := Z14.decSet_far (cs' := decC d1 X0 m0 c0 q0 t0) (g := g12) (by omega); (refine call_op (i := 15) rfl (by kernel_rfl) (by rfl) (fun K hK => ?_); go_simp; skip; refine hK.out _ _ box1.cell (fun hHeld2 => ?_); clear hK K hHeld; have hHeld := hHeld2; clear hHeld2; (try simp only [Act.put, List.setIfInBounds_toArray, List.set_cons_zero, List.set_cons_succ])); clear s12; have s13 := dec_store Z13p rfl d2 X1 m1 c1 q1 t1; have box2 := box1.decSet_far (cs' := decC d2 X1 m1 c1 q1 t1) (g := g13) (by omega); have bel2 := below_decSet bel1 (g := g13) (by omega) (decC d2 X1 m1 c1 q1 t1); have Z12pp := Z12p.decSet_far (cs' := decC d2 X1 m1 c1 q1 t1) (g := g13) (by omega); have Z13pp := Z13p.decSet (cs' := decC d2 X1 m1 c1 q1 t1) rfl; have Z14pp := Z14p.decSet_far (cs' := decC d2 X1 m1 c1 q1 t1) (g := g13) (by omega); (refine call_op (i := 16) rfl (by kernel_rfl) (by rfl) (fun K hK => ?_); go_simp; skip; refine hK.out _ _ box2.cell (fun hHeld2 => ?_); clear hK K hHeld; have hHeld := hHeld2; clear hHeld2; (try simp only [Act.put, List.setIfInBounds_toArray, List.set_cons_zero, List.set_cons_succ])); clear s13; have s14 := dec_store Z14pp rfl d3 X2 m2 c2 q2 t2; have box3 := box2.decSet_far (cs' := decC d3 X2 m2 c2 q2 t2) (g := g14) (by omega); have bel3 := below_decSet bel2 (g := g14) (by omega) (decC d3 X2 m2 c2 q2 t2); have Z12ppp := Z12pp.decSet_far (cs' := decC d3 X2 m2 c2 q2 t2) (g := g14) (by omega); have Z13ppp := Z13pp.decSet_far (cs' := decC d3 X2 m2 c2 q2 t2) (g := g14) (by omega); have Z14ppp := Z14pp.decSet (cs' := decC d3 X2 m2 c2 q2 t2) rfl; (refine call_op (i := 17) rfl (by kernel_rfl) (by rfl) (fun K hK => ?_); go_simp; skip; refine hK.out _ _ box3.cell (fun hHeld2 => ?_); clear hK K hHeld; have hHeld := hHeld2; clear hHeld2; (try simp only [Act.put, List.setIfInBounds_toArray, List.set_cons_zero, List.set_cons_succ])); clear s14; (refine wpAnyH_done (by kernel_rfl) ?_ _); clear hHeld PT Z12 Z13 Z14 Z12p Z13p Z14p Z12pp Z13pp Z14pp box1 box2 bel1 bel2 P1 P2 P3; revert box3 bel3 Z12ppp Z13ppp Z14ppp; generalize decSet (decSet (decSet W _ _) _ _) _ _ = W3; intro box3 bel3 Z12ppp Z13ppp Z14ppp; have hz3 := bel3.size; have D1 := Z12ppp.cell; have D2 := Z13ppp.cell; have D3 := Z14ppp.cell; unfold decC at D1 D2 D3; clear HA0 HF; rcases HD.out with ⟨rfl, rfl, rfl, f1, f2⟩ | ⟨rfl, rfl, rfl, f1, f2⟩ | ⟨rfl, rfl, rfl, f1, f2⟩ <;> (go_wp2_with (first | (go_at_call 7; refine (hqu _).mono ?_; rintro e w2 ⟨rfl, rfl⟩) | (go_at_call 8; (with_reducible refine (hac _).mono ?_); rintro e w8 ⟨rfl, hb8⟩; have hz8 := hb8.size) | (go_at_call 5; (with_reducible refine (haw _).mono ?_); rintro e w9 ⟨rfl, hb9⟩; have hz9 := hb9.size; (try simp at hz9))); go_ret; exact ⟨rfl, by ((repeat' first | with_reducible exact Below.refl _ _ | with_reducible assumption | with_reducible refine Below.alloc ?_ ?_ _ | with_reducible refine Below.setCell ?_ ?_ _ | with_reducible apply Below.drew | with_reducible apply below_drewN | with_reducible refine below_call ?_ (by with_reducible assumption) ?_) <;> (first | omega | (simp; done) | (simp; omega) | (simp at *; omega)))⟩)))
      have st3_1213 : Hid (∀ (W : World) (PT : TL w A m c q t l A9 j W) (g12 : Nat) (Z12 : Blk W g12 32 zdecC) (L12 : w.heap.size + 1 ≤ g12) (g13 : Nat) (Z13 : Blk W g13 32 zdecC) (L13 : w.heap.size + 1 ≤ g13) (n1213 : g12 ≠ g13) (X0 : Option Addr) (m0 c0 : Nat) (q0 t0 : Int) (X1 : Option Addr) (m1 c1 : Nat) (q1 t1 : Int) (X2 : Option Addr) (m2 c2 : Nat) (q2 t2 : Int), F 4 #[true, true, true, true, true, true, true, true, true, true, true, true, true, true, false, false, false, false] (((((A0.put (some 11) (.pointer (some ⟨g12, 0, none⟩))).put (some 12) (.pointer (some ⟨g13, 0, none⟩))).put (some 47) (decV d1 X0 m0 c0 q0 t0)).put (some 51) (decV d2 X1 m1 c1 q1 t1)).put (some 55) (decV d3 X2 m2 c2 q2 t2)) W) := Lib.hid (by
        intro W PT g12 Z12 L12 g13 Z13 L13 n1213 X0 m0 c0 q0 t0 X1 m1 c1 q1 t1 X2 m2 c2 q2 t2
        rw [← HF.out, ← HA0.out]
        try simp only [Act.put, List.setIfInBounds_toArray, List.set_cons_zero, List.set_cons_succ]
        have hHeld := PT.box.cell
        refine call_op (i := 14) rfl (by kernel_rfl) (by rfl) ?_
        · (intro K hK; go_simp; refine hK.out _ _ (PT.keep (below_one _)).box.cell (fun hHeld2 => ?_); (try simp only [Act.put, List.setIfInBounds_toArray, List.set_cons_zero, List.set_cons_succ]); have h := st3_121314.out (W.alloc (.cells zdecC 32)) (PT.keep (below_one _)) g12 (Z12.alloc _) L12 g13 (Z13.alloc _) L13 W.heap.size (Blk.new _ _ _) PT.sz n1213 (by have := Z12.lt; omega) (by have := Z13.lt; omega) X0 m0 c0 q0 t0 X1 m1 c1 q1 t1 X2 m2 c2 q2 t2; rw [← HA0.out] at h; simp only [Act.put, List.setIfInBounds_toArray, List.set_cons_zero, List.set_cons_succ] at h; rw [HF.out]; exact h))
      have st3_1214 : Hid (∀ (W : World) (PT : TL w A m c q t l A9 j W) (g12 : Nat) (Z12 : Blk W g12 32 zdecC) (L12 : w.heap.size + 1 ≤ g12) (g14 : Nat) (Z14 : Blk W g14 32 zdecC) (L14 : w.heap.size + 1 ≤ g14) (n1214 : g12 ≠ g14) (X0 : Option Addr) (m0 c0 : Nat) (q0 t0 : Int) (X1 : Option Addr) (m1 c1 : Nat) (q1 t1 : Int) (X2 : Option Addr) (m2 c2 : Nat) (q2 t2 : Int), F 4 #[true, true, true, true, true, true, true, true, true, true, true, true, true, false, true, false, false, false] (((((A0.put (some 11) (.pointer (some ⟨g12, 0, none⟩))).put (some 13) (.pointer (some ⟨g14, 0, none⟩))).put (some 47) (decV d1 X0 m0 c0 q0 t0)).put (some 51) (decV d2 X1 m1 c1 q1 t1)).put (some 55) (decV d3 X2 m2 c2 q2 t2)) W) := Lib.hid (by
        intro W PT g12 Z12 L12 g14 Z14 L14 n1214 X0 m0 c0 q0 t0 X1 m1 c1 q1 t1 X2 m2 c2 q2 t2
        rw [← HF.out, ← HA0.out]
        try simp only [Act.put, List.setIfInBounds_toArray, List.set_cons_zero, List.set_cons_succ]
        have hHeld := PT.box.cell
        refine call_op (i := 13) rfl (by kernel_rfl) (by rfl) ?_
        · (intro K hK; go_simp; refine hK.out _ _ (PT.keep (below_one _)).box.cell (fun hHeld2 => ?_); (try simp only [Act.put, List.setIfInBounds_toArray, List.set_cons_zero, List.set_cons_succ]); have h := st3_121314.out (W.alloc (.cells zdecC 32)) (PT.keep (below_one _)) g12 (Z12.alloc _) L12 W.heap.size (Blk.new _ _ _) PT.sz g14 (Z14.alloc _) L14 (by have := Z12.lt; omega) n1214 (by have := Z14.lt; omega) X0 m0 c0 q0 t0 X1 m1 c1 q1 t1 X2 m2 c2 q2 t2; rw [← HA0.out] at h; simp only [Act.put, List.setIfInBounds_toArray, List.set_cons_zero, List.set_cons_succ] at h; rw [HF.out]; exact h))
      have st3_1314 : Hid (∀ (W : World) (PT : TL w A m c q t l A9 j W) (g13 : Nat) (Z13 : Blk W g13 32 zdecC) (L13 : w.heap.size + 1 ≤ g13) (g14 : Nat) (Z14 : Blk W g14 32 zdecC) (L14 : w.heap.size + 1 ≤ g14) (n1314 : g13 ≠ g14) (X0 : Option Addr) (m0 c0 : Nat) (q0 t0 : Int) (X1 : Option Addr) (m1 c1 : Nat) (q1 t1 : Int) (X2 : Option Addr) (m2 c2 : Nat) (q2 t2 : Int), F 4 #[true, true, true, true, true, true, true, true, true, true, true, true, false, true, true, false, false, false] (((((A0.put (some 12) (.pointer (some ⟨g13, 0, none⟩))).put (some 13) (.pointer (some ⟨g14, 0, none⟩))).put (some 47) (decV d1 X0 m0 c0 q0 t0)).put (some 51) (decV d2 X1 m1 c1 q1 t1)).put (some 55) (decV d3 X2 m2 c2 q2 t2)) W) := Lib.hid (by
        intro W PT g13 Z13 L13 g14 Z14 L14 n1314 X0 m0 c0 q0 t0 X1 m1 c1 q1 t1 X2 m2 c2 q2 t2
        rw [← HF.out, ← HA0.out]
        try simp only [Act.put, List.setIfInBounds_toArray, List.set_cons_zero, List.set_cons_succ]
        have hHeld := PT.box.cell
        refine call_op (i := 12) rfl (by kernel_rfl) (by rfl) ?_
        · (intro K hK; go_simp; refine hK.out _ _ (PT.keep (below_one _)).box.cell (fun hHeld2 => ?_); (try simp only [Act.put, List.setIfInBounds_toArray, List.set_cons_zero, List.set_cons_succ]); have h := st3_121314.out (W.alloc (.cells zdecC 32)) (PT.keep (below_one _)) W.heap.size (Blk.new _ _ _) PT.sz g13 (Z13.alloc _) L13 g14 (Z14.alloc _) L14 (by have := Z13.lt; omega) (by have := Z14.lt; omega) n1314 X0 m0 c0 q0 t0 X1 m1 c1 q1 t1 X2 m2 c2 q2 t2; rw [← HA0.out] at h; simp only [Act.put, List.setIfInBounds_toArray, List.set_cons_zero, List.set_cons_succ] at h; rw [HF.out]; exact h))
      have st3_12 : Hid (∀ (W : World) (PT : TL w A m c q t l A9 j W) (g12 : Nat) (Z12 : Blk W g12 32 zdecC) (L12 : w.heap.size + 1 ≤ g12) (X0 : Option Addr) (m0 c0 : Nat) (q0 t0 : Int) (X1 : Option Addr) (m1 c1 : Nat) (q1 t1 : Int) (X2 : Option Addr) (m2 c2 : Nat) (q2 t2 : Int), F 5 #[true, true, true, true, true, true, true, true, true, true, true, true, true, false, false, false, false, false] ((((A0.put (some 11) (.pointer (some ⟨g12, 0, none⟩))).put (some 47) (decV d1 X0 m0 c0 q0 t0)).put (some 51) (decV d2 X1 m1 c1 q1 t1)).put (some 55) (decV d3 X2 m2 c2 q2 t2)) W) := Lib.hid (by
        intro W PT g12 Z12 L12 X0 m0 c0 q0 t0 X1 m1 c1 q1 t1 X2 m2 c2 q2 t2
        rw [← HF.out, ← HA0.out]
        try simp only [Act.put, List.setIfInBounds_toArray, List.set_cons_zero, List.set_cons_succ]
        have hHeld := PT.box.cell
        refine two_op (i := 13) (j := 14) rfl rfl (by kernel_rfl) (by rfl) (by rfl) ?_ ?_ 
        · (intro K hK; go_simp; refine hK.out _ _ (PT.keep (below_one _)).box.cell (fun hHeld2 => ?_); (try simp only [Act.put, List.setIfInBounds_toArray, List.set_cons_zero, List.set_cons_succ]); have h := st3_1213.out (W.alloc (.cells zdecC 32)) (PT.keep (below_one _)) g12 (Z12.alloc _) L12 W.heap.size (Blk.new _ _ _) PT.sz (by have := Z12.lt; omega) X0 m0 c0 q0 t0 X1 m1 c1 q1 t1 X2 m2 c2 q2 t2; rw [← HA0.out] at h; simp only [Act.put, List.setIfInBounds_toArray, List.set_cons_zero, List.set_cons_succ] at h; rw [HF.out]; exact h)
        · (intro K hK; go_simp; refine hK.out _ _ (PT.keep (below_one _)).box.cell (fun hHeld2 => ?_); (try simp only [Act.put, List.setIfInBounds_toArray, List.set_cons_zero, List.set_cons_succ]); have h := st3_1214.out (W.alloc (.cells zdecC 32)) (PT.keep (below_one _)) g12 (Z12.alloc _) L12 W.heap.size (Blk.new _ _ _) PT.sz (by have := Z12.lt; omega) X0 m0 c0 q0 t0 X1 m1 c1 q1 t1 X2 m2 c2 q2 t2; rw [← HA0.out] at h; simp only [Act.put, List.setIfInBounds_toArray, List.set_cons_zero, List.set_cons_succ] at h; rw [HF.out]; exact h))
      have st3_13 : Hid (∀ (W : World) (PT : TL w A m c q t l A9 j W) (g13 : Nat) (Z13 : Blk W g13 32 zdecC) (L13 : w.heap.size + 1 ≤ g13) (X0 : Option Addr) (m0 c0 : Nat) (q0 t0 : Int) (X1 : Option Addr) (m1 c1 : Nat) (q1 t1 : Int) (X2 : Option Addr) (m2 c2 : Nat) (q2 t2 : Int), F 5 #[true, true, true, true, true, true, true, true, true, true, true, true, false, true, false, false, false, false] ((((A0.put (some 12) (.pointer (some ⟨g13, 0, none⟩))).put (some 47) (decV d1 X0 m0 c0 q0 t0)).put (some 51) (decV d2 X1 m1 c1 q1 t1)).put (some 55) (decV d3 X2 m2 c2 q2 t2)) W) := Lib.hid (by
        intro W PT g13 Z13 L13 X0 m0 c0 q0 t0 X1 m1 c1 q1 t1 X2 m2 c2 q2 t2
        rw [← HF.out, ← HA0.out]
        try simp only [Act.put, List.setIfInBounds_toArray, List.set_cons_zero, List.set_cons_succ]
        have hHeld := PT.box.cell
        refine two_op (i := 12) (j := 14) rfl rfl (by kernel_rfl) (by rfl) (by rfl) ?_ ?_ 
        · (intro K hK; go_simp; refine hK.out _ _ (PT.keep (below_one _)).box.cell (fun hHeld2 => ?_); (try simp only [Act.put, List.setIfInBounds_toArray, List.set_cons_zero, List.set_cons_succ]); have h := st3_1213.out (W.alloc (.cells zdecC 32)) (PT.keep (below_one _)) W.heap.size (Blk.new _ _ _) PT.sz g13 (Z13.alloc _) L13 (by have := Z13.lt; omega) X0 m0 c0 q0 t0 X1 m1 c1 q1 t1 X2 m2 c2 q2 t2; rw [← HA0.out] at h; simp only [Act.put, List.setIfInBounds_toArray, List.set_cons_zero, List.set_cons_succ] at h; rw [HF.out]; exact h)
        · (intro K hK; go_simp; refine hK.out _ _ (PT.keep (below_one _)).box.cell (fun hHeld2 => ?_); (try simp only [Act.put, List.setIfInBounds_toArray, List.set_cons_zero, List.set_cons_succ]); have h := st3_1314.out (W.alloc (.cells zdecC 32)) (PT.keep (below_one _)) g13 (Z13.alloc _) L13 W.heap.size (Blk.new _ _ _) PT.sz (by have := Z13.lt; omega) X0 m0 c0 q0 t0 X1 m1 c1 q1 t1 X2 m2 c2 q2 t2; rw [← HA0.out] at h; simp only [Act.put, List.setIfInBounds_toArray, List.set_cons_zero, List.set_cons_succ] at h; rw [HF.out]; exact h))
      have st3_14 : Hid (∀ (W : World) (PT : TL w A m c q t l A9 j W) (g14 : Nat) (Z14 : Blk W g14 32 zdecC) (L14 : w.heap.size + 1 ≤ g14) (X0 : Option Addr) (m0 c0 : Nat) (q0 t0 : Int) (X1 : Option Addr) (m1 c1 : Nat) (q1 t1 : Int) (X2 : Option Addr) (m2 c2 : Nat) (q2 t2 : Int), F 5 #[true, true, true, true, true, true, true, true, true, true, true, true, false, false, true, false, false, false] ((((A0.put (some 13) (.pointer (some ⟨g14, 0, none⟩))).put (some 47) (decV d1 X0 m0 c0 q0 t0)).put (some 51) (decV d2 X1 m1 c1 q1 t1)).put (some 55) (decV d3 X2 m2 c2 q2 t2)) W) := Lib.hid (by
        intro W PT g14 Z14 L14 X0 m0 c0 q0 t0 X1 m1 c1 q1 t1 X2 m2 c2 q2 t2
        rw [← HF.out, ← HA0.out]
        try simp only [Act.put, List.setIfInBounds_toArray, List.set_cons_zero, List.set_cons_succ]
        have hHeld := PT.box.cell
        refine two_op (i := 12) (j := 13) rfl rfl (by kernel_rfl) (by rfl) (by rfl) ?_ ?_ 
        · (intro K hK; go_simp; refine hK.out _ _ (PT.keep (below_one _)).box.cell (fun hHeld2 => ?_); (try simp only [Act.put, List.setIfInBounds_toArray, List.set_cons_zero, List.set_cons_succ]); have h := st3_1214.out (W.alloc (.cells zdecC 32)) (PT.keep (below_one _)) W.heap.size (Blk.new _ _ _) PT.sz g14 (Z14.alloc _) L14 (by have := Z14.lt; omega) X0 m0 c0 q0 t0 X1 m1 c1 q1 t1 X2 m2 c2 q2 t2; rw [← HA0.out] at h; simp only [Act.put, List.setIfInBounds_toArray, List.set_cons_zero, List.set_cons_succ] at h; rw [HF.out]; exact h)
        · (intro K hK; go_simp; refine hK.out _ _ (PT.keep (below_one _)).box.cell (fun hHeld2 => ?_); (try simp only [Act.put, List.setIfInBounds_toArray, List.set_cons_zero, List.set_cons_succ]); have h := st3_1314.out (W.alloc (.cells zdecC 32)) (PT.keep (below_one _)) W.heap.size (Blk.new _ _ _) PT.sz g14 (Z14.alloc _) L14 (by have := Z14.lt; omega) X0 m0 c0 q0 t0 X1 m1 c1 q1 t1 X2 m2 c2 q2 t2; rw [← HA0.out] at h; simp only [Act.put, List.setIfInBounds_toArray, List.set_cons_zero, List.set_cons_succ] at h; rw [HF.out]; exact h))
      have st3_0 : Hid (∀ (W : World) (PT : TL w A m c q t l A9 j W) (X0 : Option Addr) (m0 c0 : Nat) (q0 t0 : Int) (X1 : Option Addr) (m1 c1 : Nat) (q1 t1 : Int) (X2 : Option Addr) (m2 c2 : Nat) (q2 t2 : Int), F 6 #[true, true, true, true, true, true, true, true, true, true, true, true, false, false, false, false, false, false] (((A0.put (some 47) (decV d1 X0 m0 c0 q0 t0)).put (some 51) (decV d2 X1 m1 c1 q1 t1)).put (some 55) (decV d3 X2 m2 c2 q2 t2)) W) := Lib.hid (by
        intro W PT X0 m0 c0 q0 t0 X1 m1 c1 q1 t1 X2 m2 c2 q2 t2
        rw [← HF.out, ← HA0.out]
        try simp only [Act.put, List.setIfInBounds_toArray, List.set_cons_zero, List.set_cons_succ]
        have hHeld := PT.box.cell
        refine three_op (i := 12) (j := 13) (k := 14) rfl rfl rfl (by kernel_rfl) (by rfl) (by rfl) (by rfl) ?_ ?_ ?_ 
        · (intro K hK; go_simp; refine hK.out _ _ (PT.keep (below_one _)).box.cell (fun hHeld2 => ?_); (try simp only [Act.put, List.setIfInBounds_toArray, List.set_cons_zero, List.set_cons_succ]); have h := st3_12.out (W.alloc (.cells zdecC 32)) (PT.keep (below_one _)) W.heap.size (Blk.new _ _ _) PT.sz X0 m0 c0 q0 t0 X1 m1 c1 q1 t1 X2 m2 c2 q2 t2; rw [← HA0.out] at h; simp only [Act.put, List.setIfInBounds_toArray, List.set_cons_zero, List.set_cons_succ] at h; rw [HF.out]; exact h)
        · (intro K hK; go_simp; refine hK.out _ _ (PT.keep (below_one _)).box.cell (fun hHeld2 => ?_); (try simp only [Act.put, List.setIfInBounds_toArray, List.set_cons_zero, List.set_cons_succ]); have h := st3_13.out (W.alloc (.cells zdecC 32)) (PT.keep (below_one _)) W.heap.size (Blk.new _ _ _) PT.sz X0 m0 c0 q0 t0 X1 m1 c1 q1 t1 X2 m2 c2 q2 t2; rw [← HA0.out] at h; simp only [Act.put, List.setIfInBounds_toArray, List.set_cons_zero, List.set_cons_succ] at h; rw [HF.out]; exact h)
        · (intro K hK; go_simp; refine hK.out _ _ (PT.keep (below_one _)).box.cell (fun hHeld2 => ?_); (try simp only [Act.put, List.setIfInBounds_toArray, List.set_cons_zero, List.set_cons_succ]); have h := st3_14.out (W.alloc (.cells zdecC 32)) (PT.keep (below_one _)) W.heap.size (Blk.new _ _ _) PT.sz X0 m0 c0 q0 t0 X1 m1 c1 q1 t1 X2 m2 c2 q2 t2; rw [← HA0.out] at h; simp only [Act.put, List.setIfInBounds_toArray, List.set_cons_zero, List.set_cons_succ] at h; rw [HF.out]; exact h))
      have st2_121314 : Hid (∀ (W : World) (PT : TL w A m c q t l A9 j W) (g12 : Nat) (Z12 : Blk W g12 32 zdecC) (L12 : w.heap.size + 1 ≤ g12) (g13 : Nat) (Z13 : Blk W g13 32 zdecC) (L13 : w.heap.size + 1 ≤ g13) (g14 : Nat) (Z14 : Blk W g14 32 zdecC) (L14 : w.heap.size + 1 ≤ g14) (n1213 : g12 ≠ g13) (n1214 : g12 ≠ g14) (n1314 : g13 ≠ g14) (X0 : Option Addr) (m0 c0 : Nat) (q0 t0 : Int) (X1 : Option Addr) (m1 c1 : Nat) (q1 t1 : Int), F 4 #[true, true, true, true, true, true, true, true, true, true, true, false, true, true, true, false, false, false] (((((A0.put (some 11) (.pointer (some ⟨g12, 0, none⟩))).put (some 12) (.pointer (some ⟨g13, 0, none⟩))).put (some 13) (.pointer (some ⟨g14, 0, none⟩))).put (some 47) (decV d1 X0 m0 c0 q0 t0)).put (some 51) (decV d2 X1 m1 c1 q1 t1)) W) := Lib.hid (by
        intro W PT g12 Z12 L12 g13 Z13 L13 g14 Z14 L14 n1213 n1214 n1314 X0 m0 c0 q0 t0 X1 m1 c1 q1 t1
        rw [← HF.out, ← HA0.out]
        try simp only [Act.put, List.setIfInBounds_toArray, List.set_cons_zero, List.set_cons_succ]
        have hHeld := PT.box.cell
        refine call_op (i := 11) rfl (by kernel_rfl) (by rfl) ?_
        · (intro K hK; go_simp; go_at_call 6; (with_reducible refine (P3.out _ PT).mono ?_); rintro e w1 ⟨X2, m2, c2, q2, t2, rfl, hb1⟩; refine hK.out _ _ (PT.keep hb1).box.cell (fun hHeld2 => ?_); (try simp only [Act.put, List.setIfInBounds_toArray, List.set_cons_zero, List.set_cons_succ]); have h := st3_121314.out w1 (PT.keep hb1) g12 (Z12.keep hb1) L12 g13 (Z13.keep hb1) L13 g14 (Z14.keep hb1) L14 n1213 n1214 n1314 X0 m0 c0 q0 t0 X1 m1 c1 q1 t1 X2 m2 c2 q2 t2; rw [← HA0.out] at h; simp only [Act.put, List.setIfInBounds_toArray, List.set_cons_zero, List.set_cons_succ] at h; rw [HF.out]; exact h))
      have st2_1213 : Hid (∀ (W : World) (PT : TL w A m c q t l A9 j W) (g12 : Nat) (Z12 : Blk W g12 32 zdecC) (L12 : w.heap.size + 1 ≤ g12) (g13 : Nat) (Z13 : Blk W g13 32 zdecC) (L13 : w.heap.size + 1 ≤ g13) (n1213 : g12 ≠ g13) (X0 : Option Addr) (m0 c0 : Nat) (q0 t0 : Int) (X1 : Option Addr) (m1 c1 : Nat) (q1 t1 : Int), F 5 #[true, true, true, true, true, true, true, true, true, true, true, false, true, true, false, false, false, false] ((((A0.put (some 11) (.pointer (some ⟨g12, 0, none⟩))).put (some 12) (.pointer (some ⟨g13, 0, none⟩))).put (some 47) (decV d1 X0 m0 c0 q0 t0)).put (some 51) (decV d2 X1 m1 c1 q1 t1)) W) := Lib.hid (by
        intro W PT g12 Z12 L12 g13 Z13 L13 n1213 X0 m0 c0 q0 t0 X1 m1 c1 q1 t1
        rw [← HF.out, ← HA0.out]
        try simp only [Act.put, List.setIfInBounds_toArray, List.set_cons_zero, List.set_cons_succ]
        have hHeld := PT.box.cell
        refine two_op (i := 11) (j := 14) rfl rfl (by kernel_rfl) (by rfl) (by rfl) ?_ ?_ 
        · (intro K hK; go_simp; go_at_call 6; (with_reducible refine (P3.out _ PT).mono ?_); rintro e w1 ⟨X2, m2, c2, q2, t2, rfl, hb1⟩; refine hK.out _ _ (PT.keep hb1).box.cell (fun hHeld2 => ?_); (try simp only [Act.put, List.setIfInBounds_toArray, List.set_cons_zero, List.set_cons_succ]); have h := st3_1213.out w1 (PT.keep hb1) g12 (Z12.keep hb1) L12 g13 (Z13.keep hb1) L13 n1213 X0 m0 c0 q0 t0 X1 m1 c1 q1 t1 X2 m2 c2 q2 t2; rw [← HA0.out] at h; simp only [Act.put, List.setIfInBounds_toArray, List.set_cons_zero, List.set_cons_succ] at h; rw [HF.out]; exact h)
        · (intro K hK; go_simp; refine hK.out _ _ (PT.keep (below_one _)).box.cell (fun hHeld2 => ?_); (try simp only [Act.put, List.setIfInBounds_toArray, List.set_cons_zero, List.set_cons_succ]); have h := st2_121314.out (W.alloc (.cells zdecC 32)) (PT.keep (below_one _)) g12 (Z12.alloc _) L12 g13 (Z13.alloc _) L13 W.heap.size (Blk.new _ _ _) PT.sz n1213 (by have := Z12.lt; omega) (by have := Z13.lt; omega) X0 m0 c0 q0 t0 X1 m1 c1 q1 t1; rw [← HA0.out] at h; simp only [Act.put, List.setIfInBounds_toArray, List.set_cons_zero, List.set_cons_succ] at h; rw [HF.out]; exact h))
      have st2_1214 : Hid (∀ (W : World) (PT : TL w A m c q t l A9 j W) (g12 : Nat) (Z12 : Blk W g12 32 zdecC) (L12 : w.heap.size + 1 ≤ g12) (g14 : Nat) (Z14 : Blk W g14 32 zdecC) (L14 : w.heap.size + 1 ≤ g14) (n1214 : g12 ≠ g14) (X0 : Option Addr) (m0 c0 : Nat) (q0 t0 : Int) (X1 : Option Addr) (m1 c1 : Nat) (q1 t1 : Int), F 5 #[true, true, true, true, true, true, true, true, true, true, true, false, true, false, true, false, false, false] ((((A0.put (some 11) (.pointer (some ⟨g12, 0, none⟩))).put (some 13) (.pointer (some ⟨g14, 0, none⟩))).put (some 47) (decV d1 X0 m0 c0 q0 t0)).put (some 51) (decV d2 X1 m1 c1 q1 t1)) W) := Lib.hid (by
        intro W PT g12 Z12 L12 g14 Z14 L14 n1214 X0 m0 c0 q0 t0 X1 m1 c1 q1 t1
        rw [← HF.out, ← HA0.out]
        try simp only [Act.put, List.setIfInBounds_toArray, List.set_cons_zero, List.set_cons_succ]
        have hHeld := PT.box.cell
        refine two_op (i := 11) (j := 13) rfl rfl (by kernel_rfl) (by rfl) (by rfl) ?_ ?_ 
        · (intro K hK; go_simp; go_at_call 6; (with_reducible refine (P3.out _ PT).mono ?_); rintro e w1 ⟨X2, m2, c2, q2, t2, rfl, hb1⟩; refine hK.out _ _ (PT.keep hb1).box.cell (fun hHeld2 => ?_); (try simp only [Act.put, List.setIfInBounds_toArray, List.set_cons_zero, List.set_cons_succ]); have h := st3_1214.out w1 (PT.keep hb1) g12 (Z12.keep hb1) L12 g14 (Z14.keep hb1) L14 n1214 X0 m0 c0 q0 t0 X1 m1 c1 q1 t1 X2 m2 c2 q2 t2; rw [← HA0.out] at h; simp only [Act.put, List.setIfInBounds_toArray, List.set_cons_zero, List.set_cons_succ] at h; rw [HF.out]; exact h)
        · (intro K hK; go_simp; refine hK.out _ _ (PT.keep (below_one _)).box.cell (fun hHeld2 => ?_); (try simp only [Act.put, List.setIfInBounds_toArray, List.set_cons_zero, List.set_cons_succ]); have h := st2_121314.out (W.alloc (.cells zdecC 32)) (PT.keep (below_one _)) g12 (Z12.alloc _) L12 W.heap.size (Blk.new _ _ _) PT.sz g14 (Z14.alloc _) L14 (by have := Z12.lt; omega) n1214 (by have := Z14.lt; omega) X0 m0 c0 q0 t0 X1 m1 c1 q1 t1; rw [← HA0.out] at h; simp only [Act.put, List.setIfInBounds_toArray, List.set_cons_zero, List.set_cons_succ] at h; rw [HF.out]; exact h))
      have st2_1314 : Hid (∀ (W : World) (PT : TL w A m c q t l A9 j W) (g13 : Nat) (Z13 : Blk W g13 32 zdecC) (L13 : w.heap.size + 1 ≤ g13) (g14 : Nat) (Z14 : Blk W g14 32 zdecC) (L14 : w.heap.size + 1 ≤ g14) (n1314 : g13 ≠ g14) (X0 : Option Addr) (m0 c0 : Nat) (q0 t0 : Int) (X1 : Option Addr) (m1 c1 : Nat) (q1 t1 : Int), F 5 #[true, true, true, true, true, true, true, true, true, true, true, false, false, true, true, false, false, false] ((((A0.put (some 12) (.pointer (some ⟨g13, 0, none⟩))).put (some 13) (.pointer (some ⟨g14, 0, none⟩))).put (some 47) (decV d1 X0 m0 c0 q0 t0)).put (some 51) (decV d2 X1 m1 c1 q1 t1)) W) := Lib.hid (by
        intro W PT g13 Z13 L13 g14 Z14 L14 n1314 X0 m0 c0 q0 t0 X1 m1 c1 q1 t1
        rw [← HF.out, ← HA0.out]
        try simp only [Act.put, List.setIfInBounds_toArray, List.set_cons_zero, List.set_cons_succ]
        have hHeld := PT.box.cell
        refine two_op (i := 11) (j := 12) rfl rfl (by kernel_rfl) (by rfl) (by rfl) ?_ ?_ 
        · (intro K hK; go_simp; go_at_call 6; (with_reducible refine (P3.out _ PT).mono ?_); rintro e w1 ⟨X2, m2, c2, q2, t2, rfl, hb1⟩; refine hK.out _ _ (PT.keep hb1).box.cell (fun hHeld2 => ?_); (try simp only [Act.put, List.setIfInBounds_toArray, List.set_cons_zero, List.set_cons_succ]); have h := st3_1314.out w1 (PT.keep hb1) g13 (Z13.keep hb1) L13 g14 (Z14.keep hb1) L14 n1314 X0 m0 c0 q0 t0 X1 m1 c1 q1 t1 X2 m2 c2 q2 t2; rw [← HA0.out] at h; simp only [Act.put, List.setIfInBounds_toArray, List.set_cons_zero, List.set_cons_succ] at h; rw [HF.out]; exact h)
        · (intro K hK; go_simp; refine hK.out _ _ (PT.keep (below_one _)).box.cell (fun hHeld2 => ?_); (try simp only [Act.put, List.setIfInBounds_toArray, List.set_cons_zero, List.set_cons_succ]); have h := st2_121314.out (W.alloc (.cells zdecC 32)) (PT.keep (below_one _)) W.heap.size (Blk.new _ _ _) PT.sz g13 (Z13.alloc _) L13 g14 (Z14.alloc _) L14 (by have := Z13.lt; omega) (by have := Z14.lt; omega) n1314 X0 m0 c0 q0 t0 X1 m1 c1 q1 t1; rw [← HA0.out] at h; simp only [Act.put, List.setIfInBounds_toArray, List.set_cons_zero, List.set_cons_succ] at h; rw [HF.out]; exact h))
      have st2_12 : Hid (∀ (W : World) (PT : TL w A m c q t l A9 j W) (g12 : Nat) (Z12 : Blk W g12 32 zdecC) (L12 : w.heap.size + 1 ≤ g12) (X0 : Option Addr) (m0 c0 : Nat) (q0 t0 : Int) (X1 : Option Addr) (m1 c1 : Nat) (q1 t1 : Int), F 6 #[true, true, true, true, true, true, true, true, true, true, true, false, true, false, false, false, false, false] (((A0.put (some 11) (.pointer (some ⟨g12, 0, none⟩))).put (some 47) (decV d1 X0 m0 c0 q0 t0)).put (some 51) (decV d2 X1 m1 c1 q1 t1)) W) := Lib.hid (by
        intro W PT g12 Z12 L12 X0 m0 c0 q0 t0 X1 m1 c1 q1 t1
        rw [← HF.out, ← HA0.out]
        try simp only [Act.put, List.setIfInBounds_toArray, List.set_cons_zero, List.set_cons_succ]
        have hHeld := PT.box.cell
        refine three_op (i := 11) (j := 13) (k := 14) rfl rfl rfl (by kernel_rfl) (by rfl) (by rfl) (by rfl) ?_ ?_ ?_ 
        · (intro K hK; go_simp; go_at_call 6; (with_reducible refine (P3.out _ PT).mono ?_); rintro e w1 ⟨X2, m2, c2, q2, t2, rfl, hb1⟩; refine hK.out _ _ (PT.keep hb1).box.cell (fun hHeld2 => ?_); (try simp only [Act.put, List.setIfInBounds_toArray, List.set_cons_zero, List.set_cons_succ]); have h := st3_12.out w1 (PT.keep hb1) g12 (Z12.keep hb1) L12 X0 m0 c0 q0 t0 X1 m1 c1 q1 t1 X2 m2 c2 q2 t2; rw [← HA0.out] at h; simp only [Act.put, List.setIfInBounds_toArray, List.set_cons_zero, List.set_cons_succ] at h; rw [HF.out]; exact h)
        · (intro K hK; go_simp; refine hK.out _ _ (PT.keep (below_one _)).box.cell (fun hHeld2 => ?_); (try simp only [Act.put, List.setIfInBounds_toArray, List.set_cons_zero, List.set_cons_succ]); have h := st2_1213.out (W.alloc (.cells zdecC 32)) (PT.keep (below_one _)) g12 (Z12.alloc _) L12 W.heap.size (Blk.new _ _ _) PT.sz (by have := Z12.lt; omega) X0 m0 c0 q0 t0 X1 m1 c1 q1 t1; rw [← HA0.out] at h; simp only [Act.put, List.setIfInBounds_toArray, List.set_cons_zero, List.set_cons_succ] at h; rw [HF.out]; exact h)
        · (intro K hK; go_simp; refine hK.out _ _ (PT.keep (below_one _)).box.cell (fun hHeld2 => ?_); (try simp only [Act.put, List.setIfInBounds_toArray, List.set_cons_zero, List.set_cons_succ]); have h := st2_1214.out (W.alloc (.cells zdecC 32)) (PT.keep (below_one _)) g12 (Z12.alloc _) L12 W.heap.size (Blk.new _ _ _) PT.sz (by have := Z12.lt; omega) X0 m0 c0 q0 t0 X1 m1 c1 q1 t1; rw [← HA0.out] at h; simp only [Act.put, List.setIfInBounds_toArray, List.set_cons_zero, List.set_cons_succ] at h; rw [HF.out]; exact h))
      have st2_13 : Hid (∀ (W : World) (PT : TL w A m c q t l A9 j W) (g13 : Nat) (Z13 : Blk W g13 32 zdecC) (L13 : w.heap.size + 1 ≤ g13) (X0 : Option Addr) (m0 c0 : Nat) (q0 t0 : Int) (X1 : Option Addr) (m1 c1 : Nat) (q1 t1 : Int), F 6 #[true, true, true, true, true, true, true, true, true, true, true, false, false, true, false, false, false, false] (((A0.put (some 12) (.pointer (some ⟨g13, 0, none⟩))).put (some 47) (decV d1 X0 m0 c0 q0 t0)).put (some 51) (decV d2 X1 m1 c1 q1 t1)) W) := Lib.hid (by
        intro W PT g13 Z13 L13 X0 m0 c0 q0 t0 X1 m1 c1 q1 t1
        rw [← HF.out, ← HA0.out]
        try simp only [Act.put, List.setIfInBounds_toArray, List.set_cons_zero, List.set_cons_succ]
        have hHeld := PT.box.cell
        refine three_op (i := 11) (j := 12) (k := 14) rfl rfl rfl (by kernel_rfl) (by rfl) (by rfl) (by rfl) ?_ ?_ ?_ 
        · (intro K hK; go_simp; go_at_call 6; (with_reducible refine (P3.out _ PT).mono ?_); rintro e w1 ⟨X2, m2, c2, q2, t2, rfl, hb1⟩; refine hK.out _ _ (PT.keep hb1).box.cell (fun hHeld2 => ?_); (try simp only [Act.put, List.setIfInBounds_toArray, List.set_cons_zero, List.set_cons_succ]); have h := st3_13.out w1 (PT.keep hb1) g13 (Z13.keep hb1) L13 X0 m0 c0 q0 t0 X1 m1 c1 q1 t1 X2 m2 c2 q2 t2; rw [← HA0.out] at h; simp only [Act.put, List.setIfInBounds_toArray, List.set_cons_zero, List.set_cons_succ] at h; rw [HF.out]; exact h)
        · (intro K hK; go_simp; refine hK.out _ _ (PT.keep (below_one _)).box.cell (fun hHeld2 => ?_); (try simp only [Act.put, List.setIfInBounds_toArray, List.set_cons_zero, List.set_cons_succ]); have h := st2_1213.out (W.alloc (.cells zdecC 32)) (PT.keep (below_one _)) W.heap.size (Blk.new _ _ _) PT.sz g13 (Z13.alloc _) L13 (by have := Z13.lt; omega) X0 m0 c0 q0 t0 X1 m1 c1 q1 t1; rw [← HA0.out] at h; simp only [Act.put, List.setIfInBounds_toArray, List.set_cons_zero, List.set_cons_succ] at h; rw [HF.out]; exact h)
        · (intro K hK; go_simp; refine hK.out _ _ (PT.keep (below_one _)).box.cell (fun hHeld2 => ?_); (try simp only [Act.put, List.setIfInBounds_toArray, List.set_cons_zero, List.set_cons_succ]); have h := st2_1314.out (W.alloc (.cells zdecC 32)) (PT.keep (below_one _)) g13 (Z13.alloc _) L13 W.heap.size (Blk.new _ _ _) PT.sz (by have := Z13.lt; omega) X0 m0 c0 q0 t0 X1 m1 c1 q1 t1; rw [← HA0.out] at h; simp only [Act.put, List.setIfInBounds_toArray, List.set_cons_zero, List.set_cons_succ] at h; rw [HF.out]; exact h))
      have st2_14 : Hid (∀ (W : World) (PT : TL w A m c q t l A9 j W) (g14 : Nat) (Z14 : Blk W g14 32 zdecC) (L14 : w.heap.size + 1 ≤ g14) (X0 : Option Addr) (m0 c0 : Nat) (q0 t0 : Int) (X1 : Option Addr) (m1 c1 : Nat) (q1 t1 : Int), F 6 #[true, true, true, true, true, true, true, true, true, true, true, false, false, false, true, false, false, false] (((A0.put (some 13) (.pointer (some ⟨g14, 0, none⟩))).put (some 47) (decV d1 X0 m0 c0 q0 t0)).put (some 51) (decV d2 X1 m1 c1 q1 t1)) W) := Lib.hid (by
        intro W PT g14 Z14 L14 X0 m0 c0 q0 t0 X1 m1 c1 q1 t1
        rw [← HF.out, ← HA0.out]
        try simp only [Act.put, List.setIfInBounds_toArray, List.set_cons_zero, List.set_cons_succ]
        have hHeld := PT.box.cell
        refine three_op (i := 11) (j := 12) (k := 13) rfl rfl rfl (by kernel_rfl) (by rfl) (by rfl) (by rfl) ?_ ?_ ?_ 
        · (intro K hK; go_simp; go_at_call 6; (with_reducible refine (P3.out _ PT).mono ?_); rintro e w1 ⟨X2, m2, c2, q2, t2, rfl, hb1⟩; refine hK.out _ _ (PT.keep hb1).box.cell (fun hHeld2 => ?_); (try simp only [Act.put, List.setIfInBounds_toArray, List.set_cons_zero, List.set_cons_succ]); have h := st3_14.out w1 (PT.keep hb1) g14 (Z14.keep hb1) L14 X0 m0 c0 q0 t0 X1 m1 c1 q1 t1 X2 m2 c2 q2 t2; rw [← HA0.out] at h; simp only [Act.put, List.setIfInBounds_toArray, List.set_cons_zero, List.set_cons_succ] at h; rw [HF.out]; exact h)
        · (intro K hK; go_simp; refine hK.out _ _ (PT.keep (below_one _)).box.cell (fun hHeld2 => ?_); (try simp only [Act.put, List.setIfInBounds_toArray, List.set_cons_zero, List.set_cons_succ]); have h := st2_1214.out (W.alloc (.cells zdecC 32)) (PT.keep (below_one _)) W.heap.size (Blk.new _ _ _) PT.sz g14 (Z14.alloc _) L14 (by have := Z14.lt; omega) X0 m0 c0 q0 t0 X1 m1 c1 q1 t1; rw [← HA0.out] at h; simp only [Act.put, List.setIfInBounds_toArray, List.set_cons_zero, List.set_cons_succ] at h; rw [HF.out]; exact h)
        · (intro K hK; go_simp; refine hK.out _ _ (PT.keep (below_one _)).box.cell (fun hHeld2 => ?_); (try simp only [Act.put, List.setIfInBounds_toArray, List.set_cons_zero, List.set_cons_succ]); have h := st2_1314.out (W.alloc (.cells zdecC 32)) (PT.keep (below_one _)) W.heap.size (Blk.new _ _ _) PT.sz g14 (Z14.alloc _) L14 (by have := Z14.lt; omega) X0 m0 c0 q0 t0 X1 m1 c1 q1 t1; rw [← HA0.out] at h; simp only [Act.put, List.setIfInBounds_toArray, List.set_cons_zero, List.set_cons_succ] at h; rw [HF.out]; exact h))
      have st2_0 : Hid (∀ (W : World) (PT : TL w A m c q t l A9 j W) (X0 : Option Addr) (m0 c0 : Nat) (q0 t0 : Int) (X1 : Option Addr) (m1 c1 : Nat) (q1 t1 : Int), F 7 #[true, true, true, true, true, true, true, true, true, true, true, false, false, false, false, false, false, false] ((A0.put (some 47) (decV d1 X0 m0 c0 q0 t0)).put (some 51) (decV d2 X1 m1 c1 q1 t1)) W) := Lib.hid (by
        intro W PT X0 m0 c0 q0 t0 X1 m1 c1 q1 t1
        rw [← HF.out, ← HA0.out]
        try simp only [Act.put, List.setIfInBounds_toArray, List.set_cons_zero, List.set_cons_succ]
        have hHeld := PT.box.cell
        refine four_op (i := 11) (j := 12) (k := 13) (m := 14) rfl rfl rfl rfl (by kernel_rfl) (by rfl) (by rfl) (by rfl) (by rfl) ?_ ?_ ?_ ?_ 
        · (intro K hK; go_simp; go_at_call 6; (with_reducible refine (P3.out _ PT).mono ?_); rintro e w1 ⟨X2, m2, c2, q2, t2, rfl, hb1⟩; refine hK.out _ _ (PT.keep hb1).box.cell (fun hHeld2 => ?_); (try simp only [Act.put, List.setIfInBounds_toArray, List.set_cons_zero, List.set_cons_succ]); have h := st3_0.out w1 (PT.keep hb1) X0 m0 c0 q0 t0 X1 m1 c1 q1 t1 X2 m2 c2 q2 t2; rw [← HA0.out] at h; simp only [Act.put, List.setIfInBounds_toArray, List.set_cons_zero, List.set_cons_succ] at h; rw [HF.out]; exact h)
        · (intro K hK; go_simp; refine hK.out _ _ (PT.keep (below_one _)).box.cell (fun hHeld2 => ?_); (try simp only [Act.put, List.setIfInBounds_toArray, List.set_cons_zero, List.set_cons_succ]); have h := st2_12.out (W.alloc (.cells zdecC 32)) (PT.keep (below_one _)) W.heap.size (Blk.new _ _ _) PT.sz X0 m0 c0 q0 t0 X1 m1 c1 q1 t1; rw [← HA0.out] at h; simp only [Act.put, List.setIfInBounds_toArray, List.set_cons_zero, List.set_cons_succ] at h; rw [HF.out]; exact h)
        · (intro K hK; go_simp; refine hK.out _ _ (PT.keep (below_one _)).box.cell (fun hHeld2 => ?_); (try simp only [Act.put, List.setIfInBounds_toArray, List.set_cons_zero, List.set_cons_succ]); have h := st2_13.out (W.alloc (.cells zdecC 32)) (PT.keep (below_one _)) W.heap.size (Blk.new _ _ _) PT.sz X0 m0 c0 q0 t0 X1 m1 c1 q1 t1; rw [← HA0.out] at h; simp only [Act.put, List.setIfInBounds_toArray, List.set_cons_zero, List.set_cons_succ] at h; rw [HF.out]; exact h)
        · (intro K hK; go_simp; refine hK.out _ _ (PT.keep (below_one _)).box.cell (fun hHeld2 => ?_); (try simp only [Act.put, List.setIfInBounds_toArray, List.set_cons_zero, List.set_cons_succ]); have h := st2_14.out (W.alloc (.cells zdecC 32)) (PT.keep (below_one _)) W.heap.size (Blk.new _ _ _) PT.sz X0 m0 c0 q0 t0 X1 m1 c1 q1 t1; rw [← HA0.out] at h; simp only [Act.put, List.setIfInBounds_toArray, List.set_cons_zero, List.set_cons_succ] at h; rw [HF.out]; exact h))
      have st1_121314 : Hid (∀ (W : World) (PT : TL w A m c q t l A9 j W) (g12 : Nat) (Z12 : Blk W g12 32 zdecC) (L12 : w.heap.size + 1 ≤ g12) (g13 : Nat) (Z13 : Blk W g13 32 zdecC) (L13 : w.heap.size + 1 ≤ g13) (g14 : Nat) (Z14 : Blk W g14 32 zdecC) (L14 : w.heap.size + 1 ≤ g14) (n1213 : g12 ≠ g13) (n1214 : g12 ≠ g14) (n1314 : g13 ≠ g14) (X0 : Option Addr) (m0 c0 : Nat) (q0 t0 : Int), F 5 #[true, true, true, true, true, true, true, false, true, true, true, false, true, true, true, false, false, false] ((((A0.put (some 11) (.pointer (some ⟨g12, 0, none⟩))).put (some 12) (.pointer (some ⟨g13, 0, none⟩))).put (some 13) (.pointer (some ⟨g14, 0, none⟩))).put (some 47) (decV d1 X0 m0 c0 q0 t0)) W) := Lib.hid (by
        intro W PT g12 Z12 L12 g13 Z13 L13 g14 Z14 L14 n1213 n1214 n1314 X0 m0 c0 q0 t0
        rw [← HF.out, ← HA0.out]
        try simp only [Act.put, List.setIfInBounds_toArray, List.set_cons_zero, List.set_cons_succ]
        have hHeld := PT.box.cell
        refine call_op (i := 7) rfl (by kernel_rfl) (by rfl) ?_
        · (intro K hK; go_simp; go_at_call 6; (with_reducible refine (P2.out _ PT).mono ?_); rintro e w1 ⟨X1, m1, c1, q1, t1, rfl, hb1⟩; refine hK.out _ _ (PT.keep hb1).box.cell (fun hHeld2 => ?_); (try simp only [Act.put, List.setIfInBounds_toArray, List.set_cons_zero, List.set_cons_succ]); have h := st2_121314.out w1 (PT.keep hb1) g12 (Z12.keep hb1) L12 g13 (Z13.keep hb1) L13 g14 (Z14.keep hb1) L14 n1213 n1214 n1314 X0 m0 c0 q0 t0 X1 m1 c1 q1 t1; rw [← HA0.out] at h; simp only [Act.put, List.setIfInBounds_toArray, List.set_cons_zero, List.set_cons_succ] at h; rw [HF.out]; exact h))
      have st1_1213 : Hid (∀ (W : World) (PT : TL w A m c q t l A9 j W) (g12 : Nat) (Z12 : Blk W g12 32 zdecC) (L12 : w.heap.size + 1 ≤ g12) (g13 : Nat) (Z13 : Blk W g13 32 zdecC) (L13 : w.heap.size + 1 ≤ g13) (n1213 : g12 ≠ g13) (X0 : Option Addr) (m0 c0 : Nat) (q0 t0 : Int), F 6 #[true, true, true, true, true, true, true, false, true, true, true, false, true, true, false, false, false, false] (((A0.put (some 11) (.pointer (some ⟨g12, 0, none⟩))).put (some 12) (.pointer (some ⟨g13, 0, none⟩))).put (some 47) (decV d1 X0 m0 c0 q0 t0)) W) := Lib.hid (by
        intro W PT g12 Z12 L12 g13 Z13 L13 n1213 X0 m0 c0 q0 t0
        rw [← HF.out, ← HA0.out]
        try simp only [Act.put, List.setIfInBounds_toArray, List.set_cons_zero, List.set_cons_succ]
        have hHeld := PT.box.cell
        refine two_op (i := 7) (j := 14) rfl rfl (by kernel_rfl) (by rfl) (by rfl) ?_ ?_ 
        · (intro K hK; go_simp; go_at_call 6; (with_reducible refine (P2.out _ PT).mono ?_); rintro e w1 ⟨X1, m1, c1, q1, t1, rfl, hb1⟩; refine hK.out _ _ (PT.keep hb1).box.cell (fun hHeld2 => ?_); (try simp only [Act.put, List.setIfInBounds_toArray, List.set_cons_zero, List.set_cons_succ]); have h := st2_1213.out w1 (PT.keep hb1) g12 (Z12.keep hb1) L12 g13 (Z13.keep hb1) L13 n1213 X0 m0 c0 q0 t0 X1 m1 c1 q1 t1; rw [← HA0.out] at h; simp only [Act.put, List.setIfInBounds_toArray, List.set_cons_zero, List.set_cons_succ] at h; rw [HF.out]; exact h)
        · (intro K hK; go_simp; refine hK.out _ _ (PT.keep (below_one _)).box.cell (fun hHeld2 => ?_); (try simp only [Act.put, List.setIfInBounds_toArray, List.set_cons_zero, List.set_cons_succ]); have h := st1_121314.out (W.alloc (.cells zdecC 32)) (PT.keep (below_one _)) g12 (Z12.alloc _) L12 g13 (Z13.alloc _) L13 W.heap.size (Blk.new _ _ _) PT.sz n1213 (by have := Z12.lt; omega) (by have := Z13.lt; omega) X0 m0 c0 q0 t0; rw [← HA0.out] at h; simp only [Act.put, List.setIfInBounds_toArray, List.set_cons_zero, List.set_cons_succ] at h; rw [HF.out]; exact h))
      have st1_1214 : Hid (∀ (W : World) (PT : TL w A m c q t l A9 j W) (g12 : Nat) (Z12 : Blk W g12 32 zdecC) (L12 : w.heap.size + 1 ≤ g12) (g14 : Nat) (Z14 : Blk W g14 32 zdecC) (L14 : w.heap.size + 1 ≤ g14) (n1214 : g12 ≠ g14) (X0 : Option Addr) (m0 c0 : Nat) (q0 t0 : Int), F 6 #[true, true, true, true, true, true, true, false, true, true, true, false, true, false, true, false, false, false] (((A0.put (some 11) (.pointer (some ⟨g12, 0, none⟩))).put (some 13) (.pointer (some ⟨g14, 0, none⟩))).put (some 47) (decV d1 X0 m0 c0 q0 t0)) W) := Lib.hid (by
        intro W PT g12 Z12 L12 g14 Z14 L14 n1214 X0 m0 c0 q0 t0
        rw [← HF.out, ← HA0.out]
        try simp only [Act.put, List.setIfInBounds_toArray, List.set_cons_zero, List.set_cons_succ]
        have hHeld := PT.box.cell
        refine two_op (i := 7) (j := 13) rfl rfl (by kernel_rfl) (by rfl) (by rfl) ?_ ?_ 
        · (intro K hK; go_simp; go_at_call 6; (with_reducible refine (P2.out _ PT).mono ?_); rintro e w1 ⟨X1, m1, c1, q1, t1, rfl, hb1⟩; refine hK.out _ _ (PT.keep hb1).box.cell (fun hHeld2 => ?_); (try simp only [Act.put, List.setIfInBounds_toArray, List.set_cons_zero, List.set_cons_succ]); have h := st2_1214.out w1 (PT.keep hb1) g12 (Z12.keep hb1) L12 g14 (Z14.keep hb1) L14 n1214 X0 m0 c0 q0 t0 X1 m1 c1 q1 t1; rw [← HA0.out] at h; simp only [Act.put, List.setIfInBounds_toArray, List.set_cons_zero, List.set_cons_succ] at h; rw [HF.out]; exact h)
        · (intro K hK; go_simp; refine hK.out _ _ (PT.keep (below_one _)).box.cell (fun hHeld2 => ?_); (try simp only [Act.put, List.setIfInBounds_toArray, List.set_cons_zero, List.set_cons_succ]); have h := st1_121314.out (W.alloc (.cells zdecC 32)) (PT.keep (below_one _)) g12 (Z12.alloc _) L12 W.heap.size (Blk.new _ _ _) PT.sz g14 (Z14.alloc _) L14 (by have := Z12.lt; omega) n1214 (by have := Z14.lt; omega) X0 m0 c0 q0 t0; rw [← HA0.out] at h; simp only [Act.put, List.setIfInBounds_toArray, List.set_cons_zero, List.set_cons_succ] at h; rw [HF.out]; exact h))
      have st1_1314 : Hid (∀ (W : World) (PT : TL w A m c q t l A9 j W) (g13 : Nat) (Z13 : Blk W g13 32 zdecC) (L13 : w.heap.size + 1 ≤ g13) (g14 : Nat) (Z14 : Blk W g14 32 zdecC) (L14 : w.heap.size + 1 ≤ g14) (n1314 : g13 ≠ g14) (X0 : Option Addr) (m0 c0 : Nat) (q0 t0 : Int), F 6 #[true, true, true, true, true, true, true, false, true, true, true, false, false, true, true, false, false, false] (((A0.put (some 12) (.pointer (some ⟨g13, 0, none⟩))).put (some 13) (.pointer (some ⟨g14, 0, none⟩))).put (some 47) (decV d1 X0 m0 c0 q0 t0)) W) := Lib.hid (by
        intro W PT g13 Z13 L13 g14 Z14 L14 n1314 X0 m0 c0 q0 t0
        rw [← HF.out, ← HA0.out]
        try simp only [Act.put, List.setIfInBounds_toArray, List.set_cons_zero, List.set_cons_succ]
        have hHeld := PT.box.cell
        refine two_op (i := 7) (j := 12) rfl rfl (by kernel_rfl) (by rfl) (by rfl) ?_ ?_ 
        · (intro K hK; go_simp; go_at_call 6; (with_reducible refine (P2.out _ PT).mono ?_); rintro e w1 ⟨X1, m1, c1, q1, t1, rfl, hb1⟩; refine hK.out _ _ (PT.keep hb1).box.cell (fun hHeld2 => ?_); (try simp only [Act.put, List.setIfInBounds_toArray, List.set_cons_zero, List.set_cons_succ]); have h := st2_1314.out w1 (PT.keep hb1) g13 (Z13.keep hb1) L13 g14 (Z14.keep hb1) L14 n1314 X0 m0 c0 q0 t0 X1 m1 c1 q1 t1; rw [← HA0.out] at h; simp only [Act.put, List.setIfInBounds_toArray, List.set_cons_zero, List.set_cons_succ] at h; rw [HF.out]; exact h)
        · (intro K hK; go_simp; refine hK.out _ _ (PT.keep (below_one _)).box.cell (fun hHeld2 => ?_); (try simp only [Act.put, List.setIfInBounds_toArray, List.set_cons_zero, List.set_cons_succ]); have h := st1_121314.out (W.alloc (.cells zdecC 32)) (PT.keep (below_one _)) W.heap.size (Blk.new _ _ _) PT.sz g13 (Z13.alloc _) L13 g14 (Z14.alloc _) L14 (by have := Z13.lt; omega) (by have := Z14.lt; omega) n1314 X0 m0 c0 q0 t0; rw [← HA0.out] at h; simp only [Act.put, List.setIfInBounds_toArray, List.set_cons_zero, List.set_cons_succ] at h; rw [HF.out]; exact h))
      have st1_12 : Hid (∀ (W : World) (PT : TL w A m c q t l A9 j W) (g12 : Nat) (Z12 : Blk W g12 32 zdecC) (L12 : w.heap.size + 1 ≤ g12) (X0 : Option Addr) (m0 c0 : Nat) (q0 t0 : Int), F 7 #[true, true, true, true, true, true, true, false, true, true, true, false, true, false, false, false, false, false] ((A0.put (some 11) (.pointer (some ⟨g12, 0, none⟩))).put (some 47) (decV d1 X0 m0 c0 q0 t0)) W) := Lib.hid (by
        intro W PT g12 Z12 L12 X0 m0 c0 q0 t0
        rw [← HF.out, ← HA0.out]
        try simp only [Act.put, List.setIfInBounds_toArray, List.set_cons_zero, List.set_cons_succ]
        have hHeld := PT.box.cell
        refine three_op (i := 7) (j := 13) (k := 14) rfl rfl rfl (by kernel_rfl) (by rfl) (by rfl) (by rfl) ?_ ?_ ?_ 
        · (intro K hK; go_simp; go_at_call 6; (with_reducible refine (P2.out _ PT).mono ?_); rintro e w1 ⟨X1, m1, c1, q1, t1, rfl, hb1⟩; refine hK.out _ _ (PT.keep hb1).box.cell (fun hHeld2 => ?_); (try simp only [Act.put, List.setIfInBounds_toArray, List.set_cons_zero, List.set_cons_succ]); have h := st2_12.out w1 (PT.keep hb1) g12 (Z12.keep hb1) L12 X0 m0 c0 q0 t0 X1 m1 c1 q1 t1; rw [← HA0.out] at h; simp only [Act.put, List.setIfInBounds_toArray, List.set_cons_zero, List.set_cons_succ] at h; rw [HF.out]; exact h)
        · (intro K hK; go_simp; refine hK.out _ _ (PT.keep (below_one _)).box.cell (fun hHeld2 => ?_); (try simp only [Act.put, List.setIfInBounds_toArray, List.set_cons_zero, List.set_cons_succ]); have h := st1_1213.out (W.alloc (.cells zdecC 32)) (PT.keep (below_one _)) g12 (Z12.alloc _) L12 W.heap.size (Blk.new _ _ _) PT.sz (by have := Z12.lt; omega) X0 m0 c0 q0 t0; rw [← HA0.out] at h; simp only [Act.put, List.setIfInBounds_toArray, List.set_cons_zero, List.set_cons_succ] at h; rw [HF.out]; exact h)
        · (intro K hK; go_simp; refine hK.out _ _ (PT.keep (below_one _)).box.cell (fun hHeld2 => ?_); (try simp only [Act.put, List.setIfInBounds_toArray, List.set_cons_zero, List.set_cons_succ]); have h := st1_1214.out (W.alloc (.cells zdecC 32)) (PT.keep (below_one _)) g12 (Z12.alloc _) L12 W.heap.size (Blk.new _ _ _) PT.sz (by have := Z12.lt; omega) X0 m0 c0 q0 t0; rw [← HA0.out] at h; simp only [Act.put, List.setIfInBounds_toArray, List.set_cons_zero, List.set_cons_succ] at h; rw [HF.out]; exact h))
      have st1_13 : Hid (∀ (W : World) (PT : TL w A m c q t l A9 j W) (g13 : Nat) (Z13 : Blk W g13 32 zdecC) (L13 : w.heap.size + 1 ≤ g13) (X0 : Option Addr) (m0 c0 : Nat) (q0 t0 : Int), F 7 #[true, true, true, true, true, true, true, false, true, true, true, false, false, true, false, false, false, false] ((A0.put (some 12) (.pointer (some ⟨g13, 0, none⟩))).put (some 47) (decV d1 X0 m0 c0 q0 t0)) W) := Lib.hid (by
        intro W PT g13 Z13 L13 X0 m0 c0 q0 t0
        rw [← HF.out, ← HA0.out]
        try simp only [Act.put, List.setIfInBounds_toArray, List.set_cons_zero, List.set_cons_succ]
        have hHeld := PT.box.cell
        refine three_op (i := 7) (j := 12) (k := 14) rfl rfl rfl (by kernel_rfl) (by rfl) (by rfl) (by rfl) ?_ ?_ ?_ 
        · (intro K hK; go_simp; go_at_call 6; (with_reducible refine (P2.out _ PT).mono ?_); rintro e w1 ⟨X1, m1, c1, q1, t1, rfl, hb1⟩; refine hK.out _ _ (PT.keep hb1).box.cell (fun hHeld2 => ?_); (try simp only [Act.put, List.setIfInBounds_toArray, List.set_cons_zero, List.set_cons_succ]); have h := st2_13.out w1 (PT.keep hb1) g13 (Z13.keep hb1) L13 X0 m0 c0 q0 t0 X1 m1 c1 q1 t1; rw [← HA0.out] at h; simp only [Act.put, List.setIfInBounds_toArray, List.set_cons_zero, List.set_cons_succ] at h; rw [HF.out]; exact h)
        · (intro K hK; go_simp; refine hK.out _ _ (PT.keep (below_one _)).box.cell (fun hHeld2 => ?_); (try simp only [Act.put, List.setIfInBounds_toArray, List.set_cons_zero, List.set_cons_succ]); have h := st1_1213.out (W.alloc (.cells zdecC 32)) (PT.keep (below_one _)) W.heap.size (Blk.new _ _ _) PT.sz g13 (Z13.alloc _) L13 (by have := Z13.lt; omega) X0 m0 c0 q0 t0; rw [← HA0.out] at h; simp only [Act.put, List.setIfInBounds_toArray, List.set_cons_zero, List.set_cons_succ] at h; rw [HF.out]; exact h)
        · (intro K hK; go_simp; refine hK.out _ _ (PT.keep (below_one _)).box.cell (fun hHeld2 => ?_); (try simp only [Act.put, List.setIfInBounds_toArray, List.set_cons_zero, List.set_cons_succ]); have h := st1_1314.out (W.alloc (.cells zdecC 32)) (PT.keep (below_one _)) g13 (Z13.alloc _) L13 W.heap.size (Blk.new _ _ _) PT.sz (by have := Z13.lt; omega) X0 m0 c0 q0 t0; rw [← HA0.out] at h; simp only [Act.put, List.setIfInBounds_toArray, List.set_cons_zero, List.set_cons_succ] at h; rw [HF.out]; exact h))
      have st1_14 : Hid (∀ (W : World) (PT : TL w A m c q t l A9 j W) (g14 : Nat) (Z14 : Blk W g14 32 zdecC) (L14 : w.heap.size + 1 ≤ g14) (X0 : Option Addr) (m0 c0 : Nat) (q0 t0 : Int), F 7 #[true, true, true, true, true, true, true, false, true, true, true, false, false, false, true, false, false, false] ((A0.put (some 13) (.pointer (some ⟨g14, 0, none⟩))).put (some 47) (decV d1 X0 m0 c0 q0 t0)) W) := Lib.hid (by
        intro W PT g14 Z14 L14 X0 m0 c0 q0 t0
        rw [← HF.out, ← HA0.out]
        try simp only [Act.put, List.setIfInBounds_toArray, List.set_cons_zero, List.set_cons_succ]
        have hHeld := PT.box.cell
        refine three_op (i := 7) (j := 12) (k := 13) rfl rfl rfl (by kernel_rfl) (by rfl) (by rfl) (by rfl) ?_ ?_ ?_ 
        · (intro K hK; go_simp; go_at_call 6; (with_reducible refine (P2.out _ PT).mono ?_); rintro e w1 ⟨X1, m1, c1, q1, t1, rfl, hb1⟩; refine hK.out _ _ (PT.keep hb1).box.cell (fun hHeld2 => ?_); (try simp only [Act.put, List.setIfInBounds_toArray, List.set_cons_zero, List.set_cons_succ]); have h := st2_14.out w1 (PT.keep hb1) g14 (Z14.keep hb1) L14 X0 m0 c0 q0 t0 X1 m1 c1 q1 t1; rw [← HA0.out] at h; simp only [Act.put, List.setIfInBounds_toArray, List.set_cons_zero, List.set_cons_succ] at h; rw [HF.out]; exact h)
        · (intro K hK; go_simp; refine hK.out _ _ (PT.keep (below_one _)).box.cell (fun hHeld2 => ?_); (try simp only [Act.put, List.setIfInBounds_toArray, List.set_cons_zero, List.set_cons_succ]); have h := st1_1214.out (W.alloc (.cells zdecC 32)) (PT.keep (below_one _)) W.heap.size (Blk.new _ _ _) PT.sz g14 (Z14.alloc _) L14 (by have := Z14.lt; omega) X0 m0 c0 q0 t0; rw [← HA0.out] at h; simp only [Act.put, List.setIfInBounds_toArray, List.set_cons_zero, List.set_cons_succ] at h; rw [HF.out]; exact h)
        · (intro K hK; go_simp; refine hK.out _ _ (PT.keep (below_one _)).box.cell (fun hHeld2 => ?_); (try simp only [Act.put, List.setIfInBounds_toArray, List.set_cons_zero, List.set_cons_succ]); have h := st1_1314.out (W.alloc (.cells zdecC 32)) (PT.keep (below_one _)) W.heap.size (Blk.new _ _ _) PT.sz g14 (Z14.alloc _) L14 (by have := Z14.lt; omega) X0 m0 c0 q0 t0; rw [← HA0.out] at h; simp only [Act.put, List.setIfInBounds_toArray, List.set_cons_zero, List.set_cons_succ] at h; rw [HF.out]; exact h))
      have st1_0 : Hid (∀ (W : World) (PT : TL w A m c q t l A9 j W) (X0 : Option Addr) (m0 c0 : Nat) (q0 t0 : Int), F 8 #[true, true, true, true, true, true, true, false, true, true, true, false, false, false, false, false, false, false] (A0.put (some 47) (decV d1 X0 m0 c0 q0 t0)) W) := Lib.hid (by
        intro W PT X0 m0 c0 q0 t0
        rw [← HF.out, ← HA0.out]
        try simp only [Act.put, List.setIfInBounds_toArray, List.set_cons_zero, List.set_cons_succ]
        have hHeld := PT.box.cell
        refine four_op (i := 7) (j := 12) (k := 13) (m := 14) rfl rfl rfl rfl (by kernel_rfl) (by rfl) (by rfl) (by rfl) (by rfl) ?_ ?_ ?_ ?_ 
        · (intro K hK; go_simp; go_at_call 6; (with_reducible refine (P2.out _ PT).mono ?_); rintro e w1 ⟨X1, m1, c1, q1, t1, rfl, hb1⟩; refine hK.out _ _ (PT.keep hb1).box.cell (fun hHeld2 => ?_); (try simp only [Act.put, List.setIfInBounds_toArray, List.set_cons_zero, List.set_cons_succ]); have h := st2_0.out w1 (PT.keep hb1) X0 m0 c0 q0 t0 X1 m1 c1 q1 t1; rw [← HA0.out] at h; simp only [Act.put, List.setIfInBounds_toArray, List.set_cons_zero, List.set_cons_succ] at h; rw [HF.out]; exact h)
        · (intro K hK; go_simp; refine hK.out _ _ (PT.keep (below_one _)).box.cell (fun hHeld2 => ?_); (try simp only [Act.put, List.setIfInBounds_toArray, List.set_cons_zero, List.set_cons_succ]); have h := st1_12.out (W.alloc (.cells zdecC 32)) (PT.keep (below_one _)) W.heap.size (Blk.new _ _ _) PT.sz X0 m0 c0 q0 t0; rw [← HA0.out] at h; simp only [Act.put, List.setIfInBounds_toArray, List.set_cons_zero, List.set_cons_succ] at h; rw [HF.out]; exact h)
        · (intro K hK; go_simp; refine hK.out _ _ (PT.keep (below_one _)).box.cell (fun hHeld2 => ?_); (try simp only [Act.put, List.setIfInBounds_toArray, List.set_cons_zero, List.set_cons_succ]); have h := st1_13.out (W.alloc (.cells zdecC 32)) (PT.keep (below_one _)) W.heap.size (Blk.new _ _ _) PT.sz X0 m0 c0 q0 t0; rw [← HA0.out] at h; simp only [Act.put, List.setIfInBounds_toArray, List.set_cons_zero, List.set_cons_succ] at h; rw [HF.out]; exact h)
        · (intro K hK; go_simp; refine hK.out _ _ (PT.keep (below_one _)).box.cell (fun hHeld2 => ?_); (try simp only [Act.put, List.setIfInBounds_toArray, List.set_cons_zero, List.set_cons_succ]); have h := st1_14.out (W.alloc (.cells zdecC 32)) (PT.keep (below_one _)) W.heap.size (Blk.new _ _ _) PT.sz X0 m0 c0 q0 t0; rw [← HA0.out] at h; simp only [Act.put, List.setIfInBounds_toArray, List.set_cons_zero, List.set_cons_succ] at h; rw [HF.out]; exact h))
      have st0_121314 : Hid (∀ (W : World) (PT : TL w A m c q t l A9 j W) (g12 : Nat) (Z12 : Blk W g12 32 zdecC) (L12 : w.heap.size + 1 ≤ g12) (g13 : Nat) (Z13 : Blk W g13 32 zdecC) (L13 : w.heap.size + 1 ≤ g13) (g14 : Nat) (Z14 : Blk W g14 32 zdecC) (L14 : w.heap.size + 1 ≤ g14) (n1213 : g12 ≠ g13) (n1214 : g12 ≠ g14) (n1314 : g13 ≠ g14), F 6 #[true, true, true, false, true, true, true, false, true, true, true, false, true, true, true, false, false, false] (((A0.put (some 11) (.pointer (some ⟨g12, 0, none⟩))).put (some 12) (.pointer (some ⟨g13, 0, none⟩))).put (some 13) (.pointer (some ⟨g14, 0, none⟩))) W) := Lib.hid (by
        intro W PT g12 Z12 L12 g13 Z13 L13 g14 Z14 L14 n1213 n1214 n1314
        rw [← HF.out, ← HA0.out]
        try simp only [Act.put, List.setIfInBounds_toArray, List.set_cons_zero, List.set_cons_succ]
        have hHeld := PT.box.cell
        refine call_op (i := 3) rfl (by kernel_rfl) (by rfl) ?_
        · (intro K hK; go_simp; go_at_call 6; (with_reducible refine (P1.out _ PT).mono ?_); rintro e w1 ⟨X0, m0, c0, q0, t0, rfl, hb1⟩; refine hK.out _ _ (PT.keep hb1).box.cell (fun hHeld2 => ?_); (try simp only [Act.put, List.setIfInBounds_toArray, List.set_cons_zero, List.set_cons_succ]); have h := st1_121314.out w1 (PT.keep hb1) g12 (Z12.keep hb1) L12 g13 (Z13.keep hb1) L13 g14 (Z14.keep hb1) L14 n1213 n1214 n1314 X0 m0 c0 q0 t0; rw [← HA0.out] at h; simp only [Act.put, List.setIfInBounds_toArray, List.set_cons_zero, List.set_cons_succ] at h; rw [HF.out]; exact h))
      have st0_1213 : Hid (∀ (W : World) (PT : TL w A m c q t l A9 j W) (g12 : Nat) (Z12 : Blk W g12 32 zdecC) (L12 : w.heap.size + 1 ≤ g12) (g13 : Nat) (Z13 : Blk W g13 32 zdecC) (L13 : w.heap.size + 1 ≤ g13) (n1213 : g12 ≠ g13), F 7 #[true, true, true, false, true, true, true, false, true, true, true, false, true, true, false, false, false, false] ((A0.put (some 11) (.pointer (some ⟨g12, 0, none⟩))).put (some 12) (.pointer (some ⟨g13, 0, none⟩))) W) := Lib.hid (by
        intro W PT g12 Z12 L12 g13 Z13 L13 n1213
        rw [← HF.out, ← HA0.out]
        try simp only [Act.put, List.setIfInBounds_toArray, List.set_cons_zero, List.set_cons_succ]
        have hHeld := PT.box.cell
        refine two_op (i := 3) (j := 14) rfl rfl (by kernel_rfl) (by rfl) (by rfl) ?_ ?_ 
        · (intro K hK; go_simp; go_at_call 6; (with_reducible refine (P1.out _ PT).mono ?_); rintro e w1 ⟨X0, m0, c0, q0, t0, rfl, hb1⟩; refine hK.out _ _ (PT.keep hb1).box.cell (fun hHeld2 => ?_); (try simp only [Act.put, List.setIfInBounds_toArray, List.set_cons_zero, List.set_cons_succ]); have h := st1_1213.out w1 (PT.keep hb1) g12 (Z12.keep hb1) L12 g13 (Z13.keep hb1) L13 n1213 X0 m0 c0 q0 t0; rw [← HA0.out] at h; simp only [Act.put, List.setIfInBounds_toArray, List.set_cons_zero, List.set_cons_succ] at h; rw [HF.out]; exact h)
        · (intro K hK; go_simp; refine hK.out _ _ (PT.keep (below_one _)).box.cell (fun hHeld2 => ?_); (try simp only [Act.put, List.setIfInBounds_toArray, List.set_cons_zero, List.set_cons_succ]); have h := st0_121314.out (W.alloc (.cells zdecC 32)) (PT.keep (below_one _)) g12 (Z12.alloc _) L12 g13 (Z13.alloc _) L13 W.heap.size (Blk.new _ _ _) PT.sz n1213 (by have := Z12.lt; omega) (by have := Z13.lt; omega); rw [← HA0.out] at h; simp only [Act.put, List.setIfInBounds_toArray, List.set_cons_zero, List.set_cons_succ] at h; rw [HF.out]; exact h))
      have st0_1214 : Hid (∀ (W : World) (PT : TL w A m c q t l A9 j W) (g12 : Nat) (Z12 : Blk W g12 32 zdecC) (L12 : w.heap.size + 1 ≤ g12) (g14 : Nat) (Z14 : Blk W g14 32 zdecC) (L14 : w.heap.size + 1 ≤ g14) (n1214 : g12 ≠ g14), F 7 #[true, true, true, false, true, true, true, false, true, true, true, false, true, false, true, false, false, false] ((A0.put (some 11) (.pointer (some ⟨g12, 0, none⟩))).put (some 13) (.pointer (some ⟨g14, 0, none⟩))) W) := Lib.hid (by
        intro W PT g12 Z12 L12 g14 Z14 L14 n1214
        rw [← HF.out, ← HA0.out]
        try simp only [Act.put, List.setIfInBounds_toArray, List.set_cons_zero, List.set_cons_succ]
        have hHeld := PT.box.cell
        refine two_op (i := 3) (j := 13) rfl rfl (by kernel_rfl) (by rfl) (by rfl) ?_ ?_ 
        · (intro K hK; go_simp; go_at_call 6; (with_reducible refine (P1.out _ PT).mono ?_); rintro e w1 ⟨X0, m0, c0, q0, t0, rfl, hb1⟩; refine hK.out _ _ (PT.keep hb1).box.cell (fun hHeld2 => ?_); (try simp only [Act.put, List.setIfInBounds_toArray, List.set_cons_zero, List.set_cons_succ]); have h := st1_1214.out w1 (PT.keep hb1) g12 (Z12.keep hb1) L12 g14 (Z14.keep hb1) L14 n1214 X0 m0 c0 q0 t0; rw [← HA0.out] at h; simp only [Act.put, List.setIfInBounds_toArray, List.set_cons_zero, List.set_cons_succ] at h; rw [HF.out]; exact h)
        · (intro K hK; go_simp; refine hK.out _ _ (PT.keep (below_one _)).box.cell (fun hHeld2 => ?_); (try simp only [Act.put, List.setIfInBounds_toArray, List.set_cons_zero, List.set_cons_succ]); have h := st0_121314.out (W.alloc (.cells zdecC 32)) (PT.keep (below_one _)) g12 (Z12.alloc _) L12 W.heap.size (Blk.new _ _ _) PT.sz g14 (Z14.alloc _) L14 (by have := Z12.lt; omega) n1214 (by have := Z14.lt; omega); rw [← HA0.out] at h; simp only [Act.put, List.setIfInBounds_toArray, List.set_cons_zero, List.set_cons_succ] at h; rw [HF.out]; exact h))
      have st0_1314 : Hid (∀ (W : World) (PT : TL w A m c q t l A9 j W) (g13 : Nat) (Z13 : Blk W g13 32 zdecC) (L13 : w.heap.size + 1 ≤ g13) (g14 : Nat) (Z14 : Blk W g14 32 zdecC) (L14 : w.heap.size + 1 ≤ g14) (n1314 : g13 ≠ g14), F 7 #[true, true, true, false, true, true, true, false, true, true, true, false, false, true, true, false, false, false] ((A0.put (some 12) (.pointer (some ⟨g13, 0, none⟩))).put (some 13) (.pointer (some ⟨g14, 0, none⟩))) W) := Lib.hid (by
        intro W PT g13 Z13 L13 g14 Z14 L14 n1314
        rw [← HF.out, ← HA0.out]
        try simp only [Act.put, List.setIfInBounds_toArray, List.set_cons_zero, List.set_cons_succ]
        have hHeld := PT.box.cell
        refine two_op (i := 3) (j := 12) rfl rfl (by kernel_rfl) (by rfl) (by rfl) ?_ ?_ 
        · (intro K hK; go_simp; go_at_call 6; (with_reducible refine (P1.out _ PT).mono ?_); rintro e w1 ⟨X0, m0, c0, q0, t0, rfl, hb1⟩; refine hK.out _ _ (PT.keep hb1).box.cell (fun hHeld2 => ?_); (try simp only [Act.put, List.setIfInBounds_toArray, List.set_cons_zero, List.set_cons_succ]); have h := st1_1314.out w1 (PT.keep hb1) g13 (Z13.keep hb1) L13 g14 (Z14.keep hb1) L14 n1314 X0 m0 c0 q0 t0; rw [← HA0.out] at h; simp only [Act.put, List.setIfInBounds_toArray, List.set_cons_zero, List.set_cons_succ] at h; rw [HF.out]; exact h)
        · (intro K hK; go_simp; refine hK.out _ _ (PT.keep (below_one _)).box.cell (fun hHeld2 => ?_); (try simp only [Act.put, List.setIfInBounds_toArray, List.set_cons_zero, List.set_cons_succ]); have h := st0_121314.out (W.alloc (.cells zdecC 32)) (PT.keep (below_one _)) W.heap.size (Blk.new _ _ _) PT.sz g13 (Z13.alloc _) L13 g14 (Z14.alloc _) L14 (by have := Z13.lt; omega) (by have := Z14.lt; omega) n1314; rw [← HA0.out] at h; simp only [Act.put, List.setIfInBounds_toArray, List.set_cons_zero, List.set_cons_succ] at h; rw [HF.out]; exact h))
      have st0_12 : Hid (∀ (W : World) (PT : TL w A m c q t l A9 j W) (g12 : Nat) (Z12 : Blk W g12 32 zdecC) (L12 : w.heap.size + 1 ≤ g12), F 8 #[true, true, true, false, true, true, true, false, true, true, true, false, true, false, false, false, false, false] (A0.put (some 11) (.pointer (some ⟨g12, 0, none⟩))) W) := Lib.hid (by
        intro W PT g12 Z12 L12
        rw [← HF.out, ← HA0.out]
        try simp only [Act.put, List.setIfInBounds_toArray, List.set_cons_zero, List.set_cons_succ]
        have hHeld := PT.box.cell
        refine three_op (i := 3) (j := 13) (k := 14) rfl rfl rfl (by kernel_rfl) (by rfl) (by rfl) (by rfl) ?_ ?_ ?_ 
        · (intro K hK; go_simp; go_at_call 6; (with_reducible refine (P1.out _ PT).mono ?_); rintro e w1 ⟨X0, m0, c0, q0, t0, rfl, hb1⟩; refine hK.out _ _ (PT.keep hb1).box.cell (fun hHeld2 => ?_); (try simp only [Act.put, List.setIfInBounds_toArray, List.set_cons_zero, List.set_cons_succ]); have h := st1_12.out w1 (PT.keep hb1) g12 (Z12.keep hb1) L12 X0 m0 c0 q0 t0; rw [← HA0.out] at h; simp only [Act.put, List.setIfInBounds_toArray, List.set_cons_zero, List.set_cons_succ] at h; rw [HF.out]; exact h)
        · (intro K hK; go_simp; refine hK.out _ _ (PT.keep (below_one _)).box.cell (fun hHeld2 => ?_); (try simp only [Act.put, List.setIfInBounds_toArray, List.set_cons_zero, List.set_cons_succ]); have h := st0_1213.out (W.alloc (.cells zdecC 32)) (PT.keep (below_one _)) g12 (Z12.alloc _) L12 W.heap.size (Blk.new _ _ _) PT.sz (by have := Z12.lt; omega); rw [← HA0.out] at h; simp only [Act.put, List.setIfInBounds_toArray, List.set_cons_zero, List.set_cons_succ] at h; rw [HF.out]; exact h)
        · (intro K hK; go_simp; refine hK.out _ _ (PT.keep (below_one _)).box.cell (fun hHeld2 => ?_); (try simp only [Act.put, List.setIfInBounds_toArray, List.set_cons_zero, List.set_cons_succ]); have h := st0_1214.out (W.alloc (.cells zdecC 32)) (PT.keep (below_one _)) g12 (Z12.alloc _) L12 W.heap.size (Blk.new _ _ _) PT.sz (by have := Z12.lt; omega); rw [← HA0.out] at h; simp only [Act.put, List.setIfInBounds_toArray, List.set_cons_zero, List.set_cons_succ] at h; rw [HF.out]; exact h))
      have st0_13 : Hid (∀ (W : World) (PT : TL w A m c q t l A9 j W) (g13 : Nat) (Z13 : Blk W g13 32 zdecC) (L13 : w.heap.size + 1 ≤ g13), F 8 #[true, true, true, false, true, true, true, false, true, true, true, false, false, true, false, false, false, false] (A0.put (some 12) (.pointer (some ⟨g13, 0, none⟩))) W) := Lib.hid (by
        intro W PT g13 Z13 L13
        rw [← HF.out, ← HA0.out]
        try simp only [Act.put, List.setIfInBounds_toArray, List.set_cons_zero, List.set_cons_succ]
        have hHeld := PT.box.cell
        refine three_op (i := 3) (j := 12) (k := 14) rfl rfl rfl (by kernel_rfl) (by rfl) (by rfl) (by rfl) ?_ ?_ ?_ 
        · (intro K hK; go_simp; go_at_call 6; (with_reducible refine (P1.out _ PT).mono ?_); rintro e w1 ⟨X0, m0, c0, q0, t0, rfl, hb1⟩; refine hK.out _ _ (PT.keep hb1).box.cell (fun hHeld2 => ?_); (try simp only [Act.put, List.setIfInBounds_toArray, List.set_cons_zero, List.set_cons_succ]); have h := st1_13.out w1 (PT.keep hb1) g13 (Z13.keep hb1) L13 X0 m0 c0 q0 t0; rw [← HA0.out] at h; simp only [Act.put, List.setIfInBounds_toArray, List.set_cons_zero, List.set_cons_succ] at h; rw [HF.out]; exact h)
        · (intro K hK; go_simp; refine hK.out _ _ (PT.keep (below_one _)).box.cell (fun hHeld2 => ?_); (try simp only [Act.put, List.setIfInBounds_toArray, List.set_cons_zero, List.set_cons_succ]); have h := st0_1213.out (W.alloc (.cells zdecC 32)) (PT.keep (below_one _)) W.heap.size (Blk.new _ _ _) PT.sz g13 (Z13.alloc _) L13 (by have := Z13.lt; omega); rw [← HA0.out] at h; simp only [Act.put, List.setIfInBounds_toArray, List.set_cons_zero, List.set_cons_succ] at h; rw [HF.out]; exact h)
        · (intro K hK; go_simp; refine hK.out _ _ (PT.keep (below_one _)).box.cell (fun hHeld2 => ?_); (try simp only [Act.put, List.setIfInBounds_toArray, List.set_cons_zero, List.set_cons_succ]); have h := st0_1314.out (W.alloc (.cells zdecC 32)) (PT.keep (below_one _)) g13 (Z13.alloc _) L13 W.heap.size (Blk.new _ _ _) PT.sz (by have := Z13.lt; omega); rw [← HA0.out] at h; simp only [Act.put, List.setIfInBounds_toArray, List.set_cons_zero, List.set_cons_succ] at h; rw [HF.out]; exact h))
      have st0_14 : Hid (∀ (W : World) (PT : TL w A m c q t l A9 j W) (g14 : Nat) (Z14 : Blk W g14 32 zdecC) (L14 : w.heap.size + 1 ≤ g14), F 8 #[true, true, true, false, true, true, true, false, true, true, true, false, false, false, true, false, false, false] (A0.put (some 13) (.pointer (some ⟨g14, 0, none⟩))) W) := Lib.hid (by
        intro W PT g14 Z14 L14
        rw [← HF.out, ← HA0.out]
        try simp only [Act.put, List.setIfInBounds_toArray, List.set_cons_zero, List.set_cons_succ]
        have hHeld := PT.box.cell
        refine three_op (i := 3) (j := 12) (k := 13) rfl rfl rfl (by kernel_rfl) (by rfl) (by rfl) (by rfl) ?_ ?_ ?_ 
        · (intro K hK; go_simp; go_at_call 6; (with_reducible refine (P1.out _ PT).mono ?_); rintro e w1 ⟨X0, m0, c0, q0, t0, rfl, hb1⟩; refine hK.out _ _ (PT.keep hb1).box.cell (fun hHeld2 => ?_); (try simp only [Act.put, List.setIfInBounds_toArray, List.set_cons_zero, List.set_cons_succ]); have h := st1_14.out w1 (PT.keep hb1) g14 (Z14.keep hb1) L14 X0 m0 c0 q0 t0; rw [← HA0.out] at h; simp only [Act.put, List.setIfInBounds_toArray, List.set_cons_zero, List.set_cons_succ] at h; rw [HF.out]; exact h)
        · (intro K hK; go_simp; refine hK.out _ _ (PT.keep (below_one _)).box.cell (fun hHeld2 => ?_); (try simp only [Act.put, List.setIfInBounds_toArray, List.set_cons_zero, List.set_cons_succ]); have h := st0_1214.out (W.alloc (.cells zdecC 32)) (PT.keep (below_one _)) W.heap.size (Blk.new _ _ _) PT.sz g14 (Z14.alloc _) L14 (by have := Z14.lt; omega); rw [← HA0.out] at h; simp only [Act.put, List.setIfInBounds_toArray, List.set_cons_zero, List.set_cons_succ] at h; rw [HF.out]; exact h)
        · (intro K hK; go_simp; refine hK.out _ _ (PT.keep (below_one _)).box.cell (fun hHeld2 => ?_); (try simp only [Act.put, List.setIfInBounds_toArray, List.set_cons_zero, List.set_cons_succ]); have h := st0_1314.out (W.alloc (.cells zdecC 32)) (PT.keep (below_one _)) W.heap.size (Blk.new _ _ _) PT.sz g14 (Z14.alloc _) L14 (by have := Z14.lt; omega); rw [← HA0.out] at h; simp only [Act.put, List.setIfInBounds_toArray, List.set_cons_zero, List.set_cons_succ] at h; rw [HF.out]; exact h))
      have st0_0 : Hid (∀ (W : World) (PT : TL w A m c q t l A9 j W), F 9 #[true, true, true, false, true, true, true, false, true, true, true, false, false, false, false, false, false, false] A0 W) := Lib.hid (by
        intro W PT
        rw [← HF.out, ← HA0.out]
        try simp only [Act.put, List.setIfInBounds_toArray, List.set_cons_zero, List.set_cons_succ]
        have hHeld := PT.box.cell
        refine four_op (i := 3) (j := 12) (k := 13) (m := 14) rfl rfl rfl rfl (by kernel_rfl) (by rfl) (by rfl) (by rfl) (by rfl) ?_ ?_ ?_ ?_ 
        · (intro K hK; go_simp; go_at_call 6; (with_reducible refine (P1.out _ PT).mono ?_); rintro e w1 ⟨X0, m0, c0, q0, t0, rfl, hb1⟩; refine hK.out _ _ (PT.keep hb1).box.cell (fun hHeld2 => ?_); (try simp only [Act.put, List.setIfInBounds_toArray, List.set_cons_zero, List.set_cons_succ]); have h := st1_0.out w1 (PT.keep hb1) X0 m0 c0 q0 t0; rw [← HA0.out] at h; simp only [Act.put, List.setIfInBounds_toArray, List.set_cons_zero, List.set_cons_succ] at h; rw [HF.out]; exact h)
        · (intro K hK; go_simp; refine hK.out _ _ (PT.keep (below_one _)).box.cell (fun hHeld2 => ?_); (try simp only [Act.put, List.setIfInBounds_toArray, List.set_cons_zero, List.set_cons_succ]); have h := st0_12.out (W.alloc (.cells zdecC 32)) (PT.keep (below_one _)) W.heap.size (Blk.new _ _ _) PT.sz; rw [← HA0.out] at h; simp only [Act.put, List.setIfInBounds_toArray, List.set_cons_zero, List.set_cons_succ] at h; rw [HF.out]; exact h)
        · (intro K hK; go_simp; refine hK.out _ _ (PT.keep (below_one _)).box.cell (fun hHeld2 => ?_); (try simp only [Act.put, List.setIfInBounds_toArray, List.set_cons_zero, List.set_cons_succ]); have h := st0_13.out (W.alloc (.cells zdecC 32)) (PT.keep (below_one _)) W.heap.size (Blk.new _ _ _) PT.sz; rw [← HA0.out] at h; simp only [Act.put, List.setIfInBounds_toArray, List.set_cons_zero, List.set_cons_succ] at h; rw [HF.out]; exact h)
        · (intro K hK; go_simp; refine hK.out _ _ (PT.keep (below_one _)).box.cell (fun hHeld2 => ?_); (try simp only [Act.put, List.setIfInBounds_toArray, List.set_cons_zero, List.set_cons_succ]); have h := st0_14.out (W.alloc (.cells zdecC 32)) (PT.keep (below_one _)) W.heap.size (Blk.new _ _ _) PT.sz; rw [← HA0.out] at h; simp only [Act.put, List.setIfInBounds_toArray, List.set_cons_zero, List.set_cons_succ] at h; rw [HF.out]; exact h))
      exact st0_0.out w0 PT
end Go.Proofs.Ytmgiholmhhjpaaa
