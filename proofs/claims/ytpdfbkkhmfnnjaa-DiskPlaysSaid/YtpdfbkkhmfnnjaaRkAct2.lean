/- The document's disk: Sync. -/
import Derived.Test.YtpdfbkkhmfnnjaaRkAct
import Derived.WalkKit
import Derived.WalkSpells
import Derived.WalkLawsBesides
import Derived.Deep.RegionHeld3
import Derived.Deep.DrawnRows
import Derived.Deep.DeepCutAuto
import Derived.Deep.DeepFit
import Derived.Lib.Hide
import Derived.BigQuiet
import Derived.Deep.QuietTactic
import Derived.Deep.RegionHeld3
namespace Go.Proofs.Ytpdfbkkhmfnnjaa
open Go.RowKit
set_option linter.unusedVariables false
set_option linter.unusedSimpArgs false
set_option maxRecDepth 20000
attribute [local go_sem ↓] Go.wp_at_zero Go.wp_at_succ
attribute [local go_sem] World.cell?_alloc_some frozen_alloc_some
attribute [local go_sem] lt2 lt3 lt4 lt5
attribute [local simp] lt2 lt3 lt4 lt5

theorem set_get {fs : List KF} {i : Nat} {f f' : KF} (hi : fs[i]? = some f) : (fs.set i f')[i]? = some f' := by
  rw [List.getElem?_set_self]; exact (List.getElem?_eq_some_iff.1 hi).1
/-- Behind new blocks a field is written anew. -/
theorem put_new {W W' : World} {F : Nat → Prop} {x i j g : Nat} {fs : List KF} {c : Nat} {room fuse : Int} {down : Bool} {f f' : KF} {v : Value} (R : RkG W F x fs (some ⟨g, 0, none⟩) c room fuse down) (hb : Below W.heap.size W W') (hi : fs[i]? = some f) (hj : j < 3) (hk : kL f' = (kL f).set j v)
    (ok' : RkG W' F x fs (some ⟨g, 0, none⟩) c room fuse down → KOk W' (fun k => F k ∨ (W.heap.size ≤ k ∧ k < W'.heap.size)) x (.slice (some ⟨g, 0, none⟩) fs.length c : Value).ownBlock f') :
    RkG (W'.setCell ⟨g, i * 3 + j, none⟩ v) (fun k => F k ∨ (W.heap.size ≤ k ∧ k < W'.heap.size)) x (fs.set i f') (some ⟨g, 0, none⟩) c room fuse down :=
  ((R.keep hb).grow W.heap.size).put hi hj hk rfl (ok' (R.keep hb))
theorem put_turn {w W W' : World} {F : Nat → Prop} {g : Nat} (T : Turn F w W) (hb : Below W.heap.size W W') (hg : F g) (o : Nat) (v : Value) : Turn F w (W'.setCell ⟨g, o, none⟩ v) :=
  (T.trans (Turn.of_below (F := F) hb) fun k hk => .inl hk).trans (turn_set W' g o v) fun k e => .inl (by rw [e]; exact hg)
theorem tail_nil {W : World} {F : Nat → Prop} {x i g : Nat} {fs : List KF} {c : Nat} {room fuse : Int} {down : Bool} {f f' : KF} (R : RkG W F x (fs.set i f') (some ⟨g, 0, none⟩) c room fuse down) (hi : fs[i]? = some f) :
    RkG (W.setCell ⟨g, i * 3 + 2, none⟩ (.slice none 0 0)) F x (fs.set i ⟨f'.nm, f'.S, [], f'.sA, f'.sc, none, 0⟩) (some ⟨g, 0, none⟩) c room fuse down := by
  have h0 := set_get (f' := f') hi
  have hok := R.ok f' (List.mem_of_getElem? h0)
  have h1 := R.put (f' := ⟨f'.nm, f'.S, [], f'.sA, f'.sc, none, 0⟩) (j := 2) (v := .slice none 0 0) h0 (by omega) rfl rfl ⟨hok.s, KB.nil, hok.nm⟩
  rw [List.set_set] at h1
  exact h1
theorem frz_keep {W W' : World} {g : Nat} (h : ∀ j, W.frozen? ⟨g, j, none⟩ = false) (hb : Below W.heap.size W W') : True := trivial
set_option maxHeartbeats 8000000 in
theorem sync12_any {F : Nat → Prop} {x : Nat} {d : DkT} (s : NmT) (w : World) (h : RkAt w F x d) :
    Calls Try.prog 55 #[.pointer (some ⟨x, 0, none⟩), sK s] w (Deeds12 w F x (deedD d fun l => syncC l s)) := by
  obtain ⟨⟨fs, A, c, h1, h2⟩, ok⟩ := h
  have hdd := deed12_any F x fs A c d.room d.fuse d.down w h1 ⟨ok.fuse0, ok.fuse1⟩
  have h16 := rk_len ok h2
  by_cases hd : d.down = true ∨ d.fuse = 0
  · have FIN := Lib.hid (fun w1 R1 T1 => dead_fin (w := w) (w' := w1) (A := A) (c := c) ok h2 hd (fun l => syncC l s) h1.Fx R1 T1)
    rw [deed_dead hd] at hdd
    clear h1 h2 ok h16 hd 
    go_enter Try.func55, Try.ntmps55
    go_wp2_with (go_at_call 86; (with_reducible refine hdd.mono ?_); rintro e w1 ⟨rfl, R1, T1⟩; have FIN2 := Lib.hid (FIN.out w1 R1 T1); clear R1 T1)
    go_ret
    exact FIN2.out
  · have FIN := Lib.hid (fun v l' (hact : (fun l => syncC l s) d.l = (v, l')) F' fs' A' c' w1 h2' R1 T1 hF => live_fin (w := w) (w' := w1) (F := F) (F' := F') (fs := fs') (A := A') (c := c') (x := x) ok hd (act := fun l => syncC l s) (v := v) (l' := l') hact (syncC_ok ok) h2' R1 T1 hF)
    rw [deed_live hd] at hdd
    have hfd := rk_find h2 s
    have hx := h1.Fx
    have hlt := h1.lt
    generalize fuD d = fu at FIN hdd
    have TX : ∀ W, Turn (fun k => k = x) w W → Turn F w W := fun W T => T.mono fun k _ e => by rw [e]; exact hx
    cases hf : findBy KF.nm s fs with
    | none =>
      rw [hf] at hfd
      have hq := fun w1 R1 T1 => FIN.out 8 d.l (by simp only [syncC]; rw [hfd]; rfl) F fs A c w1 h2 R1 T1 fun k hk => .inl hk
      have Hq := Lib.hid hq
      have hno := fun W R => at12_no (s := s) (w := W) (F := F) (x := x) (A := A) (c := c) (room := d.room) (fuse := fu) (down := false) R h16 hf
      clear hq FIN h2 hfd hd ok
      go_enter Try.func55, Try.ntmps55
      go_wp2_with (first
        | (go_at_call 86; (with_reducible refine hdd.mono ?_); rintro e w1 ⟨rfl, R1, T1⟩; have FIN2 := Lib.hid (Hq.out w1 R1 (TX _ T1)); clear T1)
        | (go_at_call 88; (with_reducible refine (hno _ R1).mono ?_); rintro e w2 ⟨rfl, rfl⟩; clear R1))
      go_ret
      exact FIN2.out
    | some f =>
      rw [hf] at hfd
      simp only [Option.map_some] at hfd
      have hfm := (findBy_some hf).1
      have hfn := (findBy_some hf).2
      have htwo := rk_two ok h2 hfm
      have hyes := fun W R => at12_yes (s := s) (w := W) (F := F) (x := x) (A := A) (c := c) (room := d.room) (fuse := fu) (down := false) R h16 hf
      have hasc := ok.asc
      rw [← h2] at hasc
      have Hq := Lib.hid (fun F' fs' A' c' w1 h2' R1 T1 hF => FIN.out 0 (updBy Prod.fst s (fun f => (f.1, f.2.1, f.2.1.length)) d.l) (by simp only [syncC]; rw [hfd]) F' fs' A' c' w1 h2' R1 T1 hF)
      have Hset := Lib.hid (fun (i : Nat) (hi : fs[i]? = some f) (f' : KF) (hd : f'.d = (f.nm, f.S ++ f.T, (f.S ++ f.T).length)) => show (fs.set i f').map KF.d = updBy Prod.fst s (fun f => (f.1, f.2.1, f.2.1.length)) d.l by
        rw [← h2]; exact set_upd hi hfn hasc hd)
      clear FIN h2 hfd hd ok hasc
      go_enter Try.func55, Try.ntmps55
      go_upto_region 6 with (first
        | (go_at_call 86; (with_reducible refine hdd.mono ?_); rintro e w1 ⟨rfl, R1, T1⟩; replace T1 := TX _ T1)
        | (go_at_call 88; (with_reducible refine (hyes _ R1).mono ?_); rintro e w2 ⟨i, rfl, rfl, hi⟩; have ni : ¬ (i : Int) < 0 := (by omega)))
      obtain ⟨g, hA, c0, c1, c2, fz, hob⟩ := R1.at_ hi
      (refine wp_region_held_drew (S := (S1k x (hdK A fs.length c d.room fu false))) (by kernel_rfl) ?_ (fun hHeld => ?_); (· exact R1.hd.cell))
      have R1' := R1.keep (Below.refl w2.heap.size w2).drew
      have T1' := T1.trans (Turn.of_below (F := F) (Below.refl w2.heap.size w2).drew) fun k hk => .inl hk
      clear c0 c1 c2 fz R1 T1
      revert hHeld R1' T1'
      generalize World.drew _ = wd
      intro hHeld R1 T1
      subst hA
      obtain ⟨g', hA, c0, c1, c2, fz, _⟩ := R1.at_ hi
      cases hA
      have fok := R1.ok f hfm
      have hall := all12_any s f.S f.T f.sA f.tA f.sc f.tc wd fok.s.b fok.t.b htwo
      have i0 : (0 : Int) ≤ (i : Int) := by omega
      have i1 : (i : Int) < (fs.length : Int) := by have := (List.getElem?_eq_some_iff.1 hi).1; omega
      (refine take_op (i := 0) (v := ?_) rfl (by kernel_rfl) (by kernel_rfl) (by kernel_rfl) (fun _ _ _ h => h) (by rfl) ?_ hHeld ?_; rotate_left; (· (intro wS hSw; (try dsimp only at hSw); go_simp; first | done | with_reducible rfl)); simp only [Act.put, List.setIfInBounds_toArray, List.set_cons_zero, List.set_cons_succ]); (refine take_op (i := 1) (v := ?_) rfl (by kernel_rfl) (by kernel_rfl) (by kernel_rfl) (fun _ _ _ h => h) (by rfl) ?_ hHeld ?_; rotate_left; (· (intro wS hSw; (try dsimp only at hSw); go_simp; first | done | with_reducible rfl)); simp only [Act.put, List.setIfInBounds_toArray, List.set_cons_zero, List.set_cons_succ]); (refine take_op (i := 2) (v := ?_) rfl (by kernel_rfl) (by kernel_rfl) (by kernel_rfl) (fun _ _ _ h => h) (by rfl) ?_ hHeld ?_; rotate_left; (· (intro wS hSw; (try dsimp only at hSw); go_simp; first | done | with_reducible rfl)); simp only [Act.put, List.setIfInBounds_toArray, List.set_cons_zero, List.set_cons_succ]); (refine take_op (i := 3) (v := ?_) rfl (by kernel_rfl) (by kernel_rfl) (by kernel_rfl) (fun _ _ _ h => h) (by rfl) ?_ hHeld ?_; rotate_left; (· (intro wS hSw; (try dsimp only at hSw); go_simp; first | done | with_reducible rfl)); simp only [Act.put, List.setIfInBounds_toArray, List.set_cons_zero, List.set_cons_succ]); (refine take_op (i := 4) (v := ?_) rfl (by kernel_rfl) (by kernel_rfl) (by kernel_rfl) (fun _ _ _ h => h) (by rfl) ?_ hHeld ?_; rotate_left; (· (intro wS hSw; (try dsimp only at hSw); go_simp; first | done | with_reducible rfl)); simp only [Act.put, List.setIfInBounds_toArray, List.set_cons_zero, List.set_cons_succ]); (refine take_op (i := 5) (v := ?_) rfl (by kernel_rfl) (by kernel_rfl) (by kernel_rfl) (fun _ _ _ h => h) (by rfl) ?_ hHeld ?_; rotate_left; (· (intro wS hSw; (try dsimp only at hSw); go_simp; first | done | with_reducible rfl)); simp only [Act.put, List.setIfInBounds_toArray, List.set_cons_zero, List.set_cons_succ]); (refine take_op (i := 6) (v := ?_) rfl (by kernel_rfl) (by kernel_rfl) (by kernel_rfl) (fun _ _ _ h => h) (by rfl) ?_ hHeld ?_; rotate_left; (· (intro wS hSw; (try dsimp only at hSw); go_simp; first | done | with_reducible rfl)); simp only [Act.put, List.setIfInBounds_toArray, List.set_cons_zero, List.set_cons_succ]); (refine take_op (i := 7) (v := ?_) rfl (by kernel_rfl) (by kernel_rfl) (by kernel_rfl) (fun _ _ _ h => h) (by rfl) ?_ hHeld ?_; rotate_left; (· (intro wS hSw; (try dsimp only at hSw); go_simp; first | done | with_reducible rfl)); simp only [Act.put, List.setIfInBounds_toArray, List.set_cons_zero, List.set_cons_succ]); (refine take_op (i := 8) (v := ?_) rfl (by kernel_rfl) (by kernel_rfl) (by kernel_rfl) (fun _ _ _ h => h) (by rfl) ?_ hHeld ?_; rotate_left; (· (intro wS hSw; (try dsimp only at hSw); go_simp; first | done | with_reducible rfl)); simp only [Act.put, List.setIfInBounds_toArray, List.set_cons_zero, List.set_cons_succ]); (refine take_op (i := 9) (v := ?_) rfl (by kernel_rfl) (by kernel_rfl) (by kernel_rfl) (fun _ _ _ h => h) (by rfl) ?_ hHeld ?_; rotate_left; (· (intro wS hSw; (try dsimp only at hSw); go_simp; first | done | with_reducible rfl)); simp only [Act.put, List.setIfInBounds_toArray, List.set_cons_zero, List.set_cons_succ]); (refine take_op (i := 10) (v := ?_) rfl (by kernel_rfl) (by kernel_rfl) (by kernel_rfl) (fun _ _ _ h => h) (by rfl) ?_ hHeld ?_; rotate_left; (· (intro wS hSw; (try dsimp only at hSw); go_simp; first | done | with_reducible rfl)); simp only [Act.put, List.setIfInBounds_toArray, List.set_cons_zero, List.set_cons_succ])
      (refine call_op (i := 11) rfl (by kernel_rfl) (by rfl) (fun K hK => ?_); go_simp; skip; refine hK.out _ _ R1.hd.cell (fun hHeld2 => ?_); clear hK K hHeld; have hHeld := hHeld2; clear hHeld2; (try simp only [Act.put, List.setIfInBounds_toArray, List.set_cons_zero, List.set_cons_succ]))
      clear c0 c1 c2
      (refine call_op (i := 12) rfl (by kernel_rfl) (by rfl) (fun K hK => ?_); go_simp; (go_at_call 90; (with_reducible refine hall.mono ?_); rintro e w3 ⟨A3, c3, rfl, o3, hb3⟩); refine hK.out _ _ (R1.keep hb3).hd.cell (fun hHeld2 => ?_); clear hK K hHeld; have hHeld := hHeld2; clear hHeld2; (try simp only [Act.put, List.setIfInBounds_toArray, List.set_cons_zero, List.set_cons_succ]))
      have R3 := put_new (i := i) (f := f) (f' := ⟨f.nm, f.S ++ f.T, f.T, A3, c3, f.tA, f.tc⟩) R1 hb3 hi (j := 1) (by omega) rfl (fun R => ⟨kb_own (R1.keep hb3) R1.lt o3, (fok.t.turn (P := fun _ => False) (Turn.of_below hb3) fun _ _ h => h).mono fun k hk => .inl hk, fok.nm⟩)
      have T3 := put_turn T1 hb3 (R1.Fr g hob) (i * 3 + 1) (.slice A3 (f.S ++ f.T).length c3)
      rw [List.length_append] at R3 T3
      obtain ⟨g', hA, d0, d1, d2, ez, _⟩ := (R1.keep hb3).at_ hi
      cases hA
      clear o3 hall fz
      (refine take_op (i := 13) (v := ?_) rfl (by kernel_rfl) (by kernel_rfl) (by kernel_rfl) (fun _ _ _ h => h) (by rfl) ?_ hHeld ?_; rotate_left; (· (intro wS hSw; (try dsimp only at hSw); go_simp; first | done | with_reducible rfl)); simp only [Act.put, List.setIfInBounds_toArray, List.set_cons_zero, List.set_cons_succ]); (refine take_op (i := 14) (v := ?_) rfl (by kernel_rfl) (by kernel_rfl) (by kernel_rfl) (fun _ _ _ h => h) (by rfl) ?_ hHeld ?_; rotate_left; (· (intro wS hSw; (try dsimp only at hSw); go_simp; first | done | with_reducible rfl)); simp only [Act.put, List.setIfInBounds_toArray, List.set_cons_zero, List.set_cons_succ])
      (refine call_op (i := 15) rfl (by kernel_rfl) (by rfl) (fun K hK => ?_); go_simp; skip; refine hK.out _ _ (fun j => by have := R3.hd.cell j; simpa using this) (fun hHeld2 => ?_); clear hK K hHeld; have hHeld := hHeld2; clear hHeld2; (try simp only [Act.put, List.setIfInBounds_toArray, List.set_cons_zero, List.set_cons_succ]))
      (refine wpAnyH_done (by kernel_rfl) ?_ _)
      have R4 := tail_nil R3 hi
      have Q4 := Lib.hid (Hq.out _ _ _ _ _ (Hset.out i hi _ (by simp [KF.d])) R4 ((T3.trans (turn_set _ g _ _) fun k e => .inl (by rw [e]; exact R1.Fr g hob))) (fun k hk => hk.imp id fun hk => Nat.le_trans T1.size hk.1))
      have pc3 := R3.hd.cell
      rw [List.length_set] at pc3
      have fz3 : ∀ j, (w3.setCell ⟨g, i * 3 + 1, none⟩ (.slice A3 (f.S.length + f.T.length) c3)).frozen? ⟨g, j, none⟩ = false := fun j => by
        obtain ⟨g', hA, _, _, _, fz, _⟩ := R3.at_ (i := i) (set_get hi)
        cases hA
        exact fz j
      have cc2 : (w3.setCell ⟨g, i * 3 + 1, none⟩ (.slice A3 (f.S.length + f.T.length) c3)).cell? ⟨g, i * 3 + 2, none⟩ = some (.slice f.tA f.T.length f.tc) := by
        obtain ⟨g', hA, _, _, h2, _, _⟩ := R3.at_ (i := i) (set_get hi)
        cases hA
        exact h2
      clear hHeld R3 T3 R4 R1 T1 hb3 fok d0 d1 d2 ez
      go_wp2_with fail
      go_ret
      exact Q4.out
end Go.Proofs.Ytpdfbkkhmfnnjaa
