/- The document's disk: Cut. -/
import Derived.Test.YtpdfbkkhmfnnjaaRkAct2
import Derived.WalkKit
import Derived.WalkSpells
import Derived.WalkLawsBesides
import Derived.Deep.RegionHeld3
import Derived.Deep.DrawnRows
import Derived.Deep.DeepCutAuto
import Derived.Deep.DeepFit
import Derived.Lib.Hide
import Derived.BigQuiet
import Derived.Deep.QuietTactic
import Derived.Deep.RegionHeld3
namespace Go.Proofs.Ytpdfbkkhmfnnjaa
open Go.RowKit
set_option linter.unusedVariables false
set_option linter.unusedSimpArgs false
set_option maxRecDepth 20000
attribute [local go_sem ↓] Go.wp_at_zero Go.wp_at_succ
attribute [local go_sem] World.cell?_alloc_some frozen_alloc_some
attribute [local go_sem] lt2 lt3 lt4 lt5
attribute [local simp] lt2 lt3 lt4 lt5

set_option maxHeartbeats 8000000 in
theorem cut12_any {F : Nat → Prop} {x : Nat} {d : DkT} (s : NmT) (n : Int) (w : World) (h : RkAt w F x d) (hwf : (Lit.int .i64 n).wf = true) :
    Calls Try.prog 60 #[.pointer (some ⟨x, 0, none⟩), sK s, .int .i64 n] w (Deeds12 w F x (deedD d fun l => cutC l s n)) := by
  obtain ⟨⟨fs, A, c, h1, h2⟩, ok⟩ := h
  have hdd := deed12_any F x fs A c d.room d.fuse d.down w h1 ⟨ok.fuse0, ok.fuse1⟩
  have h16 := rk_len ok h2
  by_cases hd : d.down = true ∨ d.fuse = 0
  · have FIN := Lib.hid (fun w1 R1 T1 => dead_fin (w := w) (w' := w1) (A := A) (c := c) ok h2 hd (fun l => cutC l s n) h1.Fx R1 T1)
    rw [deed_dead hd] at hdd
    clear h1 h2 ok h16 hd 
    go_enter Try.func60, Try.ntmps60
    go_wp2_with (go_at_call 86; (with_reducible refine hdd.mono ?_); rintro e w1 ⟨rfl, R1, T1⟩; have FIN2 := Lib.hid (FIN.out w1 R1 T1); clear R1 T1)
    go_ret
    exact FIN2.out
  · have FIN := Lib.hid (fun v l' (hact : (fun l => cutC l s n) d.l = (v, l')) F' fs' A' c' w1 h2' R1 T1 hF => live_fin (w := w) (w' := w1) (F := F) (F' := F') (fs := fs') (A := A') (c := c') (x := x) ok hd (act := fun l => cutC l s n) (v := v) (l' := l') hact (cutC_ok ok n) h2' R1 T1 hF)
    rw [deed_live hd] at hdd
    have hfd := rk_find h2 s
    have hx := h1.Fx
    have hlt := h1.lt
    generalize fuD d = fu at FIN hdd
    have TX : ∀ W, Turn (fun k => k = x) w W → Turn F w W := fun W T => T.mono fun k _ e => by rw [e]; exact hx
    cases hf : findBy KF.nm s fs with
    | none =>
      rw [hf] at hfd
      have hq := fun w1 R1 T1 => FIN.out 8 d.l (by simp only [cutC]; rw [hfd]; rfl) F fs A c w1 h2 R1 T1 fun k hk => .inl hk
      have Hq := Lib.hid hq
      have hno := fun W R => at12_no (s := s) (w := W) (F := F) (x := x) (A := A) (c := c) (room := d.room) (fuse := fu) (down := false) R h16 hf
      clear hq FIN h2 hfd hd ok
      go_enter Try.func60, Try.ntmps60
      go_wp2_with (first
        | (go_at_call 86; (with_reducible refine hdd.mono ?_); rintro e w1 ⟨rfl, R1, T1⟩; have FIN2 := Lib.hid (Hq.out w1 R1 (TX _ T1)); clear T1)
        | (go_at_call 88; (with_reducible refine (hno _ R1).mono ?_); rintro e w2 ⟨rfl, rfl⟩; clear R1))
      go_ret
      exact FIN2.out
    | some f =>
      rw [hf] at hfd
      simp only [Option.map_some] at hfd
      have hfm := (findBy_some hf).1
      have hfn := (findBy_some hf).2
      have htwo := rk_two ok h2 hfm
      have hyes := fun W R => at12_yes (s := s) (w := W) (F := F) (x := x) (A := A) (c := c) (room := d.room) (fuse := fu) (down := false) R h16 hf
      have hasc := ok.asc
      rw [← h2] at hasc
      by_cases hbad : n < 0 ∨ (((f.S ++ f.T).length : Nat) : Int) < n
      · have Hq := Lib.hid (fun w1 R1 T1 => FIN.out 6 d.l (by simp only [cutC]; rw [hfd]; simp only; rw [if_pos hbad]) F fs A c w1 h2 R1 T1 fun k hk => .inl hk)
        rw [List.length_append] at hbad
        clear FIN h2 hfd hd ok hasc
        by_cases hneg : n < 0
        · clear hbad
          go_enter Try.func60, Try.ntmps60
          go_wp2_with (first | (go_at_call 86; (with_reducible refine hdd.mono ?_); rintro e w1 ⟨rfl, R1, T1⟩; replace T1 := TX _ T1) | (go_at_call 88; (with_reducible refine (hyes _ R1).mono ?_); rintro e w2 ⟨i, rfl, rfl, hi⟩; have ni : ¬ (i : Int) < 0 := (by omega); have i0 : (0 : Int) ≤ (i : Int) := (by omega); have i1 : (i : Int) < (fs.length : Int) := (by have := (List.getElem?_eq_some_iff.1 hi).1; omega); obtain ⟨g, hA, c0, c1, c2, fz, hob⟩ := R1.at_ hi; subst hA; have fok := R1.ok f hfm; have hall := all12_any s f.S f.T f.sA f.tA f.sc f.tc w2 fok.s.b fok.t.b htwo; have pc := R1.hd.cell) | (go_at_call 90; (with_reducible refine hall.mono ?_); rintro e w3 ⟨A3, c3, rfl, o3, hb3⟩; clear hall))
          have Q4 := Lib.hid (Hq.out w3 (R1.keep hb3) (T1.trans (Turn.of_below (F := F) hb3) fun k hk => .inl hk))
          go_ret
          exact Q4.out
        · have hbig : ((f.S.length : Int) + (f.T.length : Int)) < n := by omega
          clear hbad
          go_enter Try.func60, Try.ntmps60
          go_wp2_with (first | (go_at_call 86; (with_reducible refine hdd.mono ?_); rintro e w1 ⟨rfl, R1, T1⟩; replace T1 := TX _ T1) | (go_at_call 88; (with_reducible refine (hyes _ R1).mono ?_); rintro e w2 ⟨i, rfl, rfl, hi⟩; have ni : ¬ (i : Int) < 0 := (by omega); have i0 : (0 : Int) ≤ (i : Int) := (by omega); have i1 : (i : Int) < (fs.length : Int) := (by have := (List.getElem?_eq_some_iff.1 hi).1; omega); obtain ⟨g, hA, c0, c1, c2, fz, hob⟩ := R1.at_ hi; subst hA; have fok := R1.ok f hfm; have hall := all12_any s f.S f.T f.sA f.tA f.sc f.tc w2 fok.s.b fok.t.b htwo; have pc := R1.hd.cell) | (go_at_call 90; (with_reducible refine hall.mono ?_); rintro e w3 ⟨A3, c3, rfl, o3, hb3⟩; clear hall))
          have Q4 := Lib.hid (Hq.out w3 (R1.keep hb3) (T1.trans (Turn.of_below (F := F) hb3) fun k hk => .inl hk))
          go_ret
          exact Q4.out
      obtain ⟨m, rfl⟩ : ∃ m : Nat, n = (m : Int) := ⟨n.toNat, by omega⟩
      have hm : m ≤ f.S.length + f.T.length := by rw [List.length_append] at hbad; omega
      have Hq := Lib.hid (fun F' fs' A' c' w1 h2' R1 T1 hF => FIN.out 0 (updBy Prod.fst s (fun f => (f.1, f.2.1.take m, m)) d.l) (by simp only [cutC]; rw [hfd]; simp only; rw [if_neg hbad]; simp) F' fs' A' c' w1 h2' R1 T1 hF)
      have Hset := Lib.hid (fun (i : Nat) (hi : fs[i]? = some f) (f' : KF) (hd : f'.d = (f.nm, (f.S ++ f.T).take m, m)) => show (fs.set i f').map KF.d = updBy Prod.fst s (fun f => (f.1, f.2.1.take m, m)) d.l by
        rw [← h2]; exact set_upd hi hfn hasc hd)
      have z1 : ¬ (m : Int) < 0 := by omega
      have z2 : ¬ ((f.S.length : Int) + (f.T.length : Int)) < (m : Int) := by omega
      have z3 : (m : Int) ≤ (f.S.length : Int) + (f.T.length : Int) := by omega
      clear FIN h2 hfd hd ok hasc hbad
      go_enter Try.func60, Try.ntmps60
      go_upto_region 9 with (first | (go_at_call 86; (with_reducible refine hdd.mono ?_); rintro e w1 ⟨rfl, R1, T1⟩; replace T1 := TX _ T1) | (go_at_call 88; (with_reducible refine (hyes _ R1).mono ?_); rintro e w2 ⟨i, rfl, rfl, hi⟩; have ni : ¬ (i : Int) < 0 := (by omega); have i0 : (0 : Int) ≤ (i : Int) := (by omega); have i1 : (i : Int) < (fs.length : Int) := (by have := (List.getElem?_eq_some_iff.1 hi).1; omega); obtain ⟨g, hA, c0, c1, c2, fz, hob⟩ := R1.at_ hi; subst hA; have fok := R1.ok f hfm; have hall := all12_any s f.S f.T f.sA f.tA f.sc f.tc w2 fok.s.b fok.t.b htwo; have pc := R1.hd.cell) | (go_at_call 90; (with_reducible refine hall.mono ?_); rintro e w3 ⟨A3, c3, rfl, o3, hb3⟩; clear hall))
      clear c0 c1 c2 fz pc
      (refine wp_region_held_drew (S := (S1k x (hdK (some ⟨g, 0, none⟩) fs.length c d.room fu false))) (by kernel_rfl) ?_ (fun hHeld => ?_); (· exact (R1.keep hb3).hd.cell))
      replace o3 := o3.keep (Below.refl w3.heap.size w3).drew
      replace hb3 := hb3.drew
      revert hHeld o3 hb3
      generalize World.drew _ = wd
      intro hHeld o3 hb3
      have kb := kb_own (R1.keep hb3) R1.lt o3
      have hcm := kb.cm
      have hcl := kb.le
      have kt : KB wd (fun k => F k ∨ (w2.heap.size ≤ k ∧ k < wd.heap.size)) x (.slice (some ⟨g, 0, none⟩) fs.length c : Value).ownBlock A3 ((f.S ++ f.T).take m).length c3 ((f.S ++ f.T).take m) := by
        have hl : ((f.S ++ f.T).take m).length = m := by rw [List.length_take, List.length_append]; omega
        rw [hl]
        exact ⟨kb.b.cutTo (by rw [List.length_append]; omega), by rw [List.length_append] at hcl; omega, kb.cm, kb.o⟩
      have R3 := put_new (i := i) (f := f) (f' := ⟨f.nm, (f.S ++ f.T).take m, f.T, A3, c3, f.tA, f.tc⟩) R1 hb3 hi (j := 1) (by omega) rfl (fun R => ⟨kt, (fok.t.turn (P := fun _ => False) (Turn.of_below hb3) fun _ _ h => h).mono fun k hk => .inl hk, fok.nm⟩)
      have T3 := put_turn T1 hb3 (R1.Fr g hob) (i * 3 + 1) (.slice A3 m c3)
      have hl : ((f.S ++ f.T).take m).length = m := by rw [List.length_take, List.length_append]; omega
      rw [hl] at R3
      rw [List.length_append] at hcl
      obtain ⟨g', hA, d0, d1, d2, ez, _⟩ := (R1.keep hb3).at_ hi
      cases hA
      have y1 : (m : Int) ≤ (c3 : Int) := by omega
      clear o3 kb kt
      (refine take_op (i := 0) (v := ?_) rfl (by kernel_rfl) (by kernel_rfl) (by kernel_rfl) (fun _ _ _ h => h) (by rfl) ?_ hHeld ?_; rotate_left; (· (intro wS hSw; (try dsimp only at hSw); go_simp; first | done | with_reducible rfl)); simp only [Act.put, List.setIfInBounds_toArray, List.set_cons_zero, List.set_cons_succ]); (refine take_op (i := 1) (v := ?_) rfl (by kernel_rfl) (by kernel_rfl) (by kernel_rfl) (fun _ _ _ h => h) (by rfl) ?_ hHeld ?_; rotate_left; (· (intro wS hSw; (try dsimp only at hSw); go_simp; first | done | with_reducible rfl)); simp only [Act.put, List.setIfInBounds_toArray, List.set_cons_zero, List.set_cons_succ]); (refine take_op (i := 2) (v := ?_) rfl (by kernel_rfl) (by kernel_rfl) (by kernel_rfl) (fun _ _ _ h => h) (by rfl) ?_ hHeld ?_; rotate_left; (· (intro wS hSw; (try dsimp only at hSw); go_simp; first | done | with_reducible rfl)); simp only [Act.put, List.setIfInBounds_toArray, List.set_cons_zero, List.set_cons_succ]); (refine take_op (i := 3) (v := ?_) rfl (by kernel_rfl) (by kernel_rfl) (by kernel_rfl) (fun _ _ _ h => h) (by rfl) ?_ hHeld ?_; rotate_left; (· (intro wS hSw; (try dsimp only at hSw); go_simp; first | done | with_reducible rfl)); simp only [Act.put, List.setIfInBounds_toArray, List.set_cons_zero, List.set_cons_succ]); (refine take_op (i := 4) (v := ?_) rfl (by kernel_rfl) (by kernel_rfl) (by kernel_rfl) (fun _ _ _ h => h) (by rfl) ?_ hHeld ?_; rotate_left; (· (intro wS hSw; (try dsimp only at hSw); go_simp; first | done | with_reducible rfl)); simp only [Act.put, List.setIfInBounds_toArray, List.set_cons_zero, List.set_cons_succ]); (refine take_op (i := 5) (v := ?_) rfl (by kernel_rfl) (by kernel_rfl) (by kernel_rfl) (fun _ _ _ h => h) (by rfl) ?_ hHeld ?_; rotate_left; (· (intro wS hSw; (try dsimp only at hSw); go_simp; first | done | with_reducible rfl)); simp only [Act.put, List.setIfInBounds_toArray, List.set_cons_zero, List.set_cons_succ]); (refine take_op (i := 6) (v := ?_) rfl (by kernel_rfl) (by kernel_rfl) (by kernel_rfl) (fun _ _ _ h => h) (by rfl) ?_ hHeld ?_; rotate_left; (· (intro wS hSw; (try dsimp only at hSw); go_simp; first | done | with_reducible rfl)); simp only [Act.put, List.setIfInBounds_toArray, List.set_cons_zero, List.set_cons_succ]); (refine take_op (i := 7) (v := ?_) rfl (by kernel_rfl) (by kernel_rfl) (by kernel_rfl) (fun _ _ _ h => h) (by rfl) ?_ hHeld ?_; rotate_left; (· (intro wS hSw; (try dsimp only at hSw); go_simp; first | done | with_reducible rfl)); simp only [Act.put, List.setIfInBounds_toArray, List.set_cons_zero, List.set_cons_succ]); (refine take_op (i := 8) (v := ?_) rfl (by kernel_rfl) (by kernel_rfl) (by kernel_rfl) (fun _ _ _ h => h) (by rfl) ?_ hHeld ?_; rotate_left; (· (intro wS hSw; (try dsimp only at hSw); go_simp; first | done | with_reducible rfl)); simp only [Act.put, List.setIfInBounds_toArray, List.set_cons_zero, List.set_cons_succ]); (refine take_op (i := 9) (v := ?_) rfl (by kernel_rfl) (by kernel_rfl) (by kernel_rfl) (fun _ _ _ h => h) (by rfl) ?_ hHeld ?_; rotate_left; (· (intro wS hSw; (try dsimp only at hSw); go_simp; first | done | with_reducible rfl)); simp only [Act.put, List.setIfInBounds_toArray, List.set_cons_zero, List.set_cons_succ])
      (refine call_op (i := 10) rfl (by kernel_rfl) (by rfl) (fun K hK => ?_); go_simp; skip; refine hK.out _ _ (fun j => by have := R3.hd.cell j; simpa using this) (fun hHeld2 => ?_); clear hK K hHeld; have hHeld := hHeld2; clear hHeld2; (try simp only [Act.put, List.setIfInBounds_toArray, List.set_cons_zero, List.set_cons_succ]))
      (refine wpAnyH_done (by kernel_rfl) ?_ _)
      have R4 := tail_nil R3 hi
      have Q4 := Lib.hid (Hq.out _ _ _ _ _ (Hset.out i hi _ (by simp [KF.d]; omega)) R4 ((T3.trans (turn_set _ g _ _) fun k e => .inl (by rw [e]; exact R1.Fr g hob))) (fun k hk => hk.imp id fun hk => Nat.le_trans T1.size hk.1))
      have pc3 := R3.hd.cell
      rw [List.length_set] at pc3
      have fz3 : ∀ j, (wd.setCell ⟨g, i * 3 + 1, none⟩ (.slice A3 m c3)).frozen? ⟨g, j, none⟩ = false := fun j => by
        obtain ⟨g', hA, _, _, _, fz, _⟩ := R3.at_ (i := i) (set_get hi)
        cases hA
        exact fz j
      have cc2 : (wd.setCell ⟨g, i * 3 + 1, none⟩ (.slice A3 m c3)).cell? ⟨g, i * 3 + 2, none⟩ = some (.slice f.tA f.T.length f.tc) := by
        obtain ⟨g', hA, _, _, h2, _, _⟩ := R3.at_ (i := i) (set_get hi)
        cases hA
        exact h2
      clear hHeld R3 T3 R4 R1 T1 hb3 fok d0 d1 d2 ez
      go_wp2_with fail
      go_ret
      exact Q4.out
end Go.Proofs.Ytpdfbkkhmfnnjaa
