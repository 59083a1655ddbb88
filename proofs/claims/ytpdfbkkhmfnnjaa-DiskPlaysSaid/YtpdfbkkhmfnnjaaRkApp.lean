/- The document's disk: Append. -/
import Derived.Test.YtpdfbkkhmfnnjaaRkAct2
import Derived.WalkKit
import Derived.WalkSpells
import Derived.WalkLawsBesides
import Derived.Deep.RegionHeld3
import Derived.Deep.DrawnRows
import Derived.Deep.DeepCutAuto
import Derived.Deep.DeepFit
import Derived.Lib.Hide
import Derived.BigQuiet
import Derived.Deep.QuietTactic
import Derived.Deep.RegionHeld3
namespace Go.Proofs.Ytpdfbkkhmfnnjaa
open Go.RowKit
set_option linter.unusedVariables false
set_option linter.unusedSimpArgs false
set_option maxRecDepth 20000
attribute [local go_sem ↓] Go.wp_at_zero Go.wp_at_succ
attribute [local go_sem] World.cell?_alloc_some frozen_alloc_some
attribute [local go_sem] lt2 lt3 lt4 lt5
attribute [local simp] lt2 lt3 lt4 lt5

theorem used_sum (n m : Nat) (h : n ≤ 1073741824) (h2 : m ≤ 1000000) : IntKind.i64.wrap ((n : Int) + (m : Int)) = (n : Int) + (m : Int) := IntWalk.i64_in _ (by omega)
set_option maxHeartbeats 16000000 in
theorem append12_any {F : Nat → Prop} {x : Nat} {d : DkT} (s : NmT) (B : Option Addr) (c : Nat) (p : List Nat) (w : World) (h : RkAt w F x d) (hs : s.length ≤ maxLen) (hbp : Bytes w B p.length p) (hB : ∀ ad, B = some ad → 0 < p.length → ¬ F ad.block) (hp : p.length ≤ 1000000) :
    Calls Try.prog 54 #[.pointer (some ⟨x, 0, none⟩), sK s, .slice B p.length c] w (Deeds12 w F x (deedD d fun l => appC d.room l s p)) := by
  obtain ⟨⟨fs, A, cc, h1, h2⟩, ok⟩ := h
  have hdd := deed12_any F x fs A cc d.room d.fuse d.down w h1 ⟨ok.fuse0, ok.fuse1⟩
  have h16 := rk_len ok h2
  by_cases hd : d.down = true ∨ d.fuse = 0
  · have FIN := Lib.hid (fun w1 R1 T1 => dead_fin (w := w) (w' := w1) (A := A) (c := cc) ok h2 hd (fun l => appC d.room l s p) h1.Fx R1 T1)
    rw [deed_dead hd] at hdd
    clear h1 h2 ok h16 hd hbp
    go_enter Try.func54, Try.ntmps54
    go_wp2_with (go_at_call 86; (with_reducible refine hdd.mono ?_); rintro e w1 ⟨rfl, R1, T1⟩; have FIN2 := Lib.hid (FIN.out w1 R1 T1); clear R1 T1)
    go_ret
    exact FIN2.out
  · have FIN := Lib.hid (fun v l' (hact : (fun l => appC d.room l s p) d.l = (v, l')) F' fs' A' c' w1 h2' R1 T1 hF => live_fin (w := w) (w' := w1) (F := F) (F' := F') (fs := fs') (A := A') (c := c') (x := x) ok hd (act := fun l => appC d.room l s p) (v := v) (l' := l') hact (appC_ok ok p) h2' R1 T1 hF)
    rw [deed_live hd] at hdd
    have hfd := rk_find h2 s
    have hx := h1.Fx
    have hlt := h1.lt
    generalize fuD d = fu at FIN hdd
    have TX : ∀ W, Turn (fun k => k = x) w W → Turn F w W := fun W T => T.mono fun k _ e => by rw [e]; exact hx
    have hnm := fun W => name12_any s W hs
    have HBP := Lib.hid hbp
    cases hn : isNm s
    · rw [hn] at hnm
      have Hq := Lib.hid (fun w1 R1 T1 => FIN.out 1 d.l (by simp only [appC]; rw [if_pos hn]) F fs A cc w1 h2 R1 T1 fun k hk => .inl hk)
      clear FIN h2 hfd hd ok hbp
      go_enter Try.func54, Try.ntmps54
      go_wp2_with (first | (go_at_call 86; (with_reducible refine hdd.mono ?_); rintro e w1 ⟨rfl, R1, T1⟩; replace T1 := TX _ T1) | (go_at_call 87; (with_reducible refine (hnm _).mono ?_); rintro e w2 ⟨rfl, hb2⟩; replace T1 := (T1.trans (Turn.of_below (F := F) hb2) fun k hk => .inl hk); replace R1 := R1.keep hb2; clear hb2))
      have Q4 := Lib.hid (Hq.out _ R1 T1)
      go_ret
      exact Q4.out
    rw [hn] at hnm
    have htot : totD (fs.map KF.d) ≤ 1073741824 := by have h1 := ok.tot; have h3 := ok.room1; rw [h2]; omega
    have hus := fun W R => used12_any F x fs A cc d.room fu false W R htot
    have hn' : ¬ isNm s = false := by rw [hn]; simp
    have happ : ∀ r, (if d.room - (totD (fs.map KF.d) : Nat) < (p.length : Int) then ((7 : Int), d.l) else match findBy Prod.fst s d.l with
        | none => if d.l.length = 16 then (12, d.l) else (0, insBy Prod.fst (s, p, 0) d.l)
        | some _ => (0, updBy Prod.fst s (fun f => (f.1, f.2.1 ++ p, f.2.2)) d.l)) = r → (fun l => appC d.room l s p) d.l = r := fun r hr => by simp only [appC]; rw [if_neg hn', ← h2]; rw [← h2] at hr; exact hr
    have hasc := ok.asc
    rw [← h2] at hasc
    have hlen : d.l.length = fs.length := by rw [← h2, List.length_map]
    have htwo := fun f (hf : f ∈ fs) => rk_two ok h2 hf
    generalize hN : totD (fs.map KF.d) = N at htot hus happ
    have hwr := used_sum N p.length htot hp
    have Hpp := Lib.hid hp
    have HA := Lib.hid happ
    have HFD := Lib.hid hfd
    have H2 := Lib.hid h2
    have HLEN := Lib.hid hlen
    have HASC := Lib.hid hasc
    have HTWO := Lib.hid htwo
    clear hN happ hfd h2 hlen hasc htwo hd ok hbp hn' hn
    go_enter Try.func54, Try.ntmps54
    go_upto_region 5 with (first | (go_at_call 86; (with_reducible refine hdd.mono ?_); rintro e w1 ⟨rfl, R1, T1⟩; replace T1 := TX _ T1) | (go_at_call 87; (with_reducible refine (hnm _).mono ?_); rintro e w2 ⟨rfl, hb2⟩; replace T1 := (T1.trans (Turn.of_below (F := F) hb2) fun k hk => .inl hk); replace R1 := R1.keep hb2; clear hb2))
    have HR := Lib.hid R1
    (refine wp_region_held_drew (S := (S1k x (hdK A fs.length cc d.room fu false))) (by kernel_rfl) ?_ (fun hHeld => ?_); (· exact R1.hd.cell))
    replace T1 := T1.trans (Turn.of_below (F := F) (Below.refl w2.heap.size w2).drew) fun k hk => .inl hk
    replace R1 := R1.keep (Below.refl w2.heap.size w2).drew
    clear HR
    revert hHeld T1 R1
    generalize World.drew _ = w3
    intro hHeld T1 R1
    (refine take_op (i := 0) (v := ?_) rfl (by kernel_rfl) (by kernel_rfl) (by kernel_rfl) (fun _ _ _ h => h) (by rfl) ?_ hHeld ?_; rotate_left; (· (intro wS hSw; (try dsimp only at hSw); go_simp; first | done | with_reducible rfl)); simp only [Act.put, List.setIfInBounds_toArray, List.set_cons_zero, List.set_cons_succ]); (refine take_op (i := 2) (v := ?_) rfl (by kernel_rfl) (by kernel_rfl) (by kernel_rfl) (fun _ _ _ h => h) (by rfl) ?_ hHeld ?_; rotate_left; (· (intro wS hSw; (try dsimp only at hSw); go_simp; first | done | with_reducible rfl)); simp only [Act.put, List.setIfInBounds_toArray, List.set_cons_zero, List.set_cons_succ]); (refine take_op (i := 3) (v := ?_) rfl (by kernel_rfl) (by kernel_rfl) (by kernel_rfl) (fun _ _ _ h => h) (by rfl) ?_ hHeld ?_; rotate_left; (· (intro wS hSw; (try dsimp only at hSw); go_simp; first | done | with_reducible rfl)); simp only [Act.put, List.setIfInBounds_toArray, List.set_cons_zero, List.set_cons_succ]); (refine take_op (i := 5) (v := ?_) rfl (by kernel_rfl) (by kernel_rfl) (by kernel_rfl) (fun _ _ _ h => h) (by rfl) ?_ hHeld ?_; rotate_left; (· (intro wS hSw; (try dsimp only at hSw); go_simp; first | done | with_reducible rfl)); simp only [Act.put, List.setIfInBounds_toArray, List.set_cons_zero, List.set_cons_succ]); (refine take_op (i := 6) (v := ?_) rfl (by kernel_rfl) (by kernel_rfl) (by kernel_rfl) (fun _ _ _ h => h) (by rfl) ?_ hHeld ?_; rotate_left; (· (intro wS hSw; (try dsimp only at hSw); go_simp; first | done | with_reducible rfl)); simp only [Act.put, List.setIfInBounds_toArray, List.set_cons_zero, List.set_cons_succ]); (refine take_op (i := 7) (v := ?_) rfl (by kernel_rfl) (by kernel_rfl) (by kernel_rfl) (fun _ _ _ h => h) (by rfl) ?_ hHeld ?_; rotate_left; (· (intro wS hSw; (try dsimp only at hSw); go_simp; first | done | with_reducible rfl)); simp only [Act.put, List.setIfInBounds_toArray, List.set_cons_zero, List.set_cons_succ]); (refine take_op (i := 8) (v := ?_) rfl (by kernel_rfl) (by kernel_rfl) (by kernel_rfl) (fun _ _ _ h => h) (by rfl) ?_ hHeld ?_; rotate_left; (· (intro wS hSw; (try dsimp only at hSw); go_simp; first | done | with_reducible rfl)); simp only [Act.put, List.setIfInBounds_toArray, List.set_cons_zero, List.set_cons_succ])
    (refine call_op (i := 1) rfl (by kernel_rfl) (by rfl) (fun K hK => ?_); go_simp; (go_at_call 64; (with_reducible refine (hus _ R1).mono ?_); rintro e w4 ⟨rfl, hb4⟩); refine hK.out _ _ (R1.keep hb4).hd.cell (fun hHeld2 => ?_); clear hK K hHeld; have hHeld := hHeld2; clear hHeld2; (try simp only [Act.put, List.setIfInBounds_toArray, List.set_cons_zero, List.set_cons_succ]))
    (refine take_op (i := 4) (v := ?_) rfl (by kernel_rfl) (by kernel_rfl) (by kernel_rfl) (fun _ _ _ h => h) (by rfl) ?_ hHeld ?_; rotate_left; (· (intro wS hSw; (try dsimp only at hSw); go_simp; first | done | with_reducible rfl)); simp only [Act.put, List.setIfInBounds_toArray, List.set_cons_zero, List.set_cons_succ]); (refine take_op (i := 9) (v := ?_) rfl (by kernel_rfl) (by kernel_rfl) (by kernel_rfl) (fun _ _ _ h => h) (by rfl) ?_ hHeld ?_; rotate_left; (· (intro wS hSw; (try dsimp only at hSw); go_simp; first | done | with_reducible rfl)); simp only [Act.put, List.setIfInBounds_toArray, List.set_cons_zero, List.set_cons_succ])
    (refine wpAnyH_done (by kernel_rfl) ?_ _)
    replace T1 := (T1.trans (Turn.of_below (F := F) hb4) fun k hk => .inl hk)
    replace R1 := R1.keep hb4
    clear hHeld hb4 hus
    clear hwr
    by_cases hfull : d.room < (N : Int) + (p.length : Int)
    · have Q4 := Lib.hid (FIN.out 7 d.l (HA.out _ (if_pos (by omega))) F fs A cc w4 H2.out R1 T1 fun k hk => .inl hk)
      clear R1 T1
      go_wp2_with fail
      go_ret
      exact Q4.out
    have HB := T1.bytes HBP.out fun ad e h => hB ad e h
    have hnf : ¬ d.room - (N : Int) < (p.length : Int) := by omega
    have HNF := Lib.hid hnf
    obtain ⟨i0', hi', hz0, hz1, hz2⟩ := u8infoK
    cases hf : findBy KF.nm s fs with
    | none =>
      have hfd := HFD.out
      rw [hf] at hfd
      have hno := fun W R => at12_no (s := s) (w := W) (F := F) (x := x) (A := A) (c := cc) (room := d.room) (fuse := fu) (down := false) R h16 hf
      have pc := R1.hd.cell
      by_cases h12 : fs.length = 16
      · have y1 : (16 : Int) ≤ (fs.length : Int) := by omega
        have Q4 := Lib.hid (FIN.out 12 d.l (HA.out _ (by rw [if_neg hnf, hfd]; simp only [Option.map_none]; rw [if_pos (by rw [HLEN.out]; exact h12)])) F fs A cc w4 H2.out R1 T1 fun k hk => .inl hk)
        clear T1 hfd hnf
        go_wp2_with (go_at_call 88; (with_reducible refine (hno _ R1).mono ?_); rintro e w5 ⟨rfl, rfl⟩)
        go_ret
        exact Q4.out
      · have y1 : ¬ (16 : Int) ≤ (fs.length : Int) := by omega
        have Hq := Lib.hid (fun F' fs' A' c' w1 h2' R1 T1 hF => FIN.out 0 (insBy Prod.fst (s, p, 0) d.l) (HA.out _ (by rw [if_neg hnf, hfd]; simp only [Option.map_none]; rw [if_neg (by rw [HLEN.out]; exact h12)])) F' fs' A' c' w1 h2' R1 T1 hF)
        have Hmap := Lib.hid (fun (A6 : Option Addr) (c6 : Nat) => show (insBy KF.nm ⟨s, [], p, none, 0, A6, c6⟩ fs).map KF.d = insBy Prod.fst (s, p, 0) d.l by
          rw [← H2.out, insBy_map (nm := KF.nm) (nm' := Prod.fst) (d := KF.d) (fun _ => rfl)]
          simp [KF.d])
        clear hfd hnf
        go_upto_region 11 with (go_at_call 88; (with_reducible refine (hno _ R1).mono ?_); rintro e w5 ⟨rfl, rfl⟩)
        have ka := below_one (w := w5) (.cells #[] 5)
        have hmade : OwnB (w5.alloc (.cells #[] 5)) w5.heap.size 5 (.slice (some ⟨w5.heap.size, 0, none⟩) 0 0) [] := OwnB.made (Nat.le_refl _)
        have hsP := Src.of_bytes (HB.keep ka)
        have h256 := Lib.hid HB.lt
        go_wp2_with (first
          | (((at_builtin; go_loud (refine wpList_app _ rfl (.tmp 40) (.tmp 41) 60 rfl _ 5 i0' _ 1 1 Try.underlying60 hi' hz0 hz1 hz2 rfl (by omega) _ _ _ rfl hmade.1 _ _ _ _ rfl hsP ?h63 ?hby ?hbase ?_); (case h63 => (unfold maxLen; first | omega | (simp; done) | (simp; omega))); (case hby => first | omega | (simp; done) | (simp; omega)); (case hbase => first | omega | (simp; done) | (simp; omega)); intro v6 w6 hownw6 hgroww6 hatw6 holdw6)); have o6 : OwnB w6 w5.heap.size 5 v6 p := OwnB.join (l := []) hownw6 (by simp) h256.out; obtain ⟨A6, c6, hv6, hl6, hc6⟩ := o6.form; subst hv6; have hk6 : Below w5.heap.size w5 w6 := below_app ka hmade.1 hgroww6 (Nat.le_refl _) (by simp); have kb := kb_own (R1.keep hk6) R1.lt o6; have R6 := (R1.keep hk6).grow w5.heap.size; have T6 := (T1.trans (Turn.of_below (F := F) hk6) fun k hk => .inl hk); have hF6 := Lib.hid (fun k (hk : F k ∨ (w5.heap.size ≤ k ∧ k < w6.heap.size)) => show F k ∨ w5.heap.size ≤ k from hk.imp id fun h => h.1); have p3 : Calls Try.prog 89 #[.pointer (some ⟨x, 0, none⟩), .agg #[sK s, .slice none 0 0, .slice A6 p.length c6]] w6 (SetsP w6 (fun k => F k ∨ (w5.heap.size ≤ k ∧ k < w6.heap.size)) x (insBy KF.nm ⟨s, [], p, none, 0, A6, c6⟩ fs) d.room fu false) := put12_any _ x fs A cc d.room fu false ⟨s, [], p, none, 0, A6, c6⟩ w6 R6 ⟨KB.nil, ⟨kb.b, kb.le, kb.cm, fun ad e => ⟨(kb.o ad e).1, (kb.o ad e).2.1, (by simp)⟩⟩, hs⟩ (by omega); clear hownw6 hgroww6 hatw6 holdw6 o6 kb)
          | (go_at_call 89; (with_reducible refine p3.mono ?_); rintro e w8 ⟨rfl, F8, A8, c8, R8, T8, hF8a, hF8b⟩; have Q4 := Lib.hid (Hq.out F8 _ A8 c8 w8 (Hmap.out A6 c6) R8 (T6.trans T8 fun k e => .inl (by rw [e]; exact hx)) (fun k hk => (hF8b k hk).elim (fun hk => (hF6.out k hk).imp id fun hk => Nat.le_trans T1.size hk) (fun hk => .inr (Nat.le_trans T6.size hk))))))
        go_ret
        exact Q4.out
    | some f =>
      have hfd := HFD.out
      rw [hf] at hfd
      simp only [Option.map_some] at hfd
      have hfm := (findBy_some hf).1
      have hfn := (findBy_some hf).2
      have htwo := HTWO.out f hfm
      have hyes := fun W R => at12_yes (s := s) (w := W) (F := F) (x := x) (A := A) (c := cc) (room := d.room) (fuse := fu) (down := false) R h16 hf
      have Hq := Lib.hid (fun F' fs' A' c' w1 h2' R1 T1 hF => FIN.out 0 (updBy Prod.fst s (fun f => (f.1, f.2.1 ++ p, f.2.2)) d.l) (HA.out _ (by rw [if_neg hnf, hfd])) F' fs' A' c' w1 h2' R1 T1 hF)
      have Hset := Lib.hid (fun (i : Nat) (hi : fs[i]? = some f) (f' : KF) (hd : f'.d = (f.nm, f.S ++ f.T ++ p, f.S.length)) => show (fs.set i f').map KF.d = updBy Prod.fst s (fun f => (f.1, f.2.1 ++ p, f.2.2)) d.l by
        rw [← H2.out]; exact set_upd hi hfn HASC.out hd)
      clear FIN HFD hfd HA HNF hnf
      go_upto_region 13 with (go_at_call 88; (with_reducible refine (hyes _ R1).mono ?_); rintro e w5 ⟨i, rfl, rfl, hi⟩; have ni : ¬ (i : Int) < 0 := (by omega))
      obtain ⟨g, hA, c0, c1, c2, fz, hob⟩ := R1.at_ hi
      (refine wp_region_held_drew (S := (S1k x (hdK A fs.length cc d.room fu false))) (by kernel_rfl) ?_ (fun hHeld => ?_); (· exact R1.hd.cell))
      replace T1 := T1.trans (Turn.of_below (F := F) (Below.refl w5.heap.size w5).drew) fun k hk => .inl hk
      replace R1 := R1.keep (Below.refl w5.heap.size w5).drew
      replace HB := HB.keep (Below.refl w5.heap.size w5).drew
      clear c0 c1 c2 fz
      revert hHeld T1 R1 HB
      generalize World.drew _ = wd
      intro hHeld T1 R1 HB
      subst hA
      obtain ⟨g', hA, c0, c1, c2, fz, _⟩ := R1.at_ hi
      cases hA
      have fok := R1.ok f hfm
      have j0 : (0 : Int) ≤ (i : Int) := by omega
      have j1 : (i : Int) < (fs.length : Int) := by have := (List.getElem?_eq_some_iff.1 hi).1; omega
      have ka := below_one (w := wd) (.cells #[] 5)
      have hmade : OwnB (wd.alloc (.cells #[] 5)) wd.heap.size 5 (.slice (some ⟨wd.heap.size, 0, none⟩) 0 0) [] := OwnB.made (Nat.le_refl _)
      have srcT := Src.of_bytes (fok.t.b.keep ka)
      have h256 := Lib.hid (show (∀ c ∈ f.T, c < 256) ∧ ∀ c ∈ p, c < 256 from ⟨fok.t.b.lt, HB.lt⟩)
      (refine take_op (i := 0) (v := ?_) rfl (by kernel_rfl) (by kernel_rfl) (by kernel_rfl) (fun _ _ _ h => h) (by rfl) ?_ hHeld ?_; rotate_left; (· (intro wS hSw; (try dsimp only at hSw); go_simp; first | done | with_reducible rfl)); simp only [Act.put, List.setIfInBounds_toArray, List.set_cons_zero, List.set_cons_succ]); (refine take_op (i := 1) (v := ?_) rfl (by kernel_rfl) (by kernel_rfl) (by kernel_rfl) (fun _ _ _ h => h) (by rfl) ?_ hHeld ?_; rotate_left; (· (intro wS hSw; (try dsimp only at hSw); go_simp; first | done | with_reducible rfl)); simp only [Act.put, List.setIfInBounds_toArray, List.set_cons_zero, List.set_cons_succ]); (refine take_op (i := 2) (v := ?_) rfl (by kernel_rfl) (by kernel_rfl) (by kernel_rfl) (fun _ _ _ h => h) (by rfl) ?_ hHeld ?_; rotate_left; (· (intro wS hSw; (try dsimp only at hSw); go_simp; first | done | with_reducible rfl)); simp only [Act.put, List.setIfInBounds_toArray, List.set_cons_zero, List.set_cons_succ]); (refine take_op (i := 3) (v := ?_) rfl (by kernel_rfl) (by kernel_rfl) (by kernel_rfl) (fun _ _ _ h => h) (by rfl) ?_ hHeld ?_; rotate_left; (· (intro wS hSw; (try dsimp only at hSw); go_simp; first | done | with_reducible rfl)); simp only [Act.put, List.setIfInBounds_toArray, List.set_cons_zero, List.set_cons_succ]); (refine take_op (i := 4) (v := ?_) rfl (by kernel_rfl) (by kernel_rfl) (by kernel_rfl) (fun _ _ _ h => h) (by rfl) ?_ hHeld ?_; rotate_left; (· (intro wS hSw; (try dsimp only at hSw); go_simp; first | done | with_reducible rfl)); simp only [Act.put, List.setIfInBounds_toArray, List.set_cons_zero, List.set_cons_succ]); (refine take_op (i := 6) (v := ?_) rfl (by kernel_rfl) (by kernel_rfl) (by kernel_rfl) (fun _ _ _ h => h) (by rfl) ?_ hHeld ?_; rotate_left; (· (intro wS hSw; (try dsimp only at hSw); go_simp; first | done | with_reducible rfl)); simp only [Act.put, List.setIfInBounds_toArray, List.set_cons_zero, List.set_cons_succ]); (refine take_op (i := 7) (v := ?_) rfl (by kernel_rfl) (by kernel_rfl) (by kernel_rfl) (fun _ _ _ h => h) (by rfl) ?_ hHeld ?_; rotate_left; (· (intro wS hSw; (try dsimp only at hSw); go_simp; first | done | with_reducible rfl)); simp only [Act.put, List.setIfInBounds_toArray, List.set_cons_zero, List.set_cons_succ]); (refine take_op (i := 8) (v := ?_) rfl (by kernel_rfl) (by kernel_rfl) (by kernel_rfl) (fun _ _ _ h => h) (by rfl) ?_ hHeld ?_; rotate_left; (· (intro wS hSw; (try dsimp only at hSw); go_simp; first | done | with_reducible rfl)); simp only [Act.put, List.setIfInBounds_toArray, List.set_cons_zero, List.set_cons_succ]); (refine take_op (i := 9) (v := ?_) rfl (by kernel_rfl) (by kernel_rfl) (by kernel_rfl) (fun _ _ _ h => h) (by rfl) ?_ hHeld ?_; rotate_left; (· (intro wS hSw; (try dsimp only at hSw); go_simp; first | done | with_reducible rfl)); simp only [Act.put, List.setIfInBounds_toArray, List.set_cons_zero, List.set_cons_succ]); (refine take_op (i := 10) (v := ?_) rfl (by kernel_rfl) (by kernel_rfl) (by kernel_rfl) (fun _ _ _ h => h) (by rfl) ?_ hHeld ?_; rotate_left; (· (intro wS hSw; (try dsimp only at hSw); go_simp; first | done | with_reducible rfl)); simp only [Act.put, List.setIfInBounds_toArray, List.set_cons_zero, List.set_cons_succ]); (refine take_op (i := 11) (v := ?_) rfl (by kernel_rfl) (by kernel_rfl) (by kernel_rfl) (fun _ _ _ h => h) (by rfl) ?_ hHeld ?_; rotate_left; (· (intro wS hSw; (try dsimp only at hSw); go_simp; first | done | with_reducible rfl)); simp only [Act.put, List.setIfInBounds_toArray, List.set_cons_zero, List.set_cons_succ]); (refine take_op (i := 12) (v := ?_) rfl (by kernel_rfl) (by kernel_rfl) (by kernel_rfl) (fun _ _ _ h => h) (by rfl) ?_ hHeld ?_; rotate_left; (· (intro wS hSw; (try dsimp only at hSw); go_simp; first | done | with_reducible rfl)); simp only [Act.put, List.setIfInBounds_toArray, List.set_cons_zero, List.set_cons_succ]); (refine take_op (i := 15) (v := ?_) rfl (by kernel_rfl) (by kernel_rfl) (by kernel_rfl) (fun _ _ _ h => h) (by rfl) ?_ hHeld ?_; rotate_left; (· (intro wS hSw; (try dsimp only at hSw); go_simp; first | done | with_reducible rfl)); simp only [Act.put, List.setIfInBounds_toArray, List.set_cons_zero, List.set_cons_succ])
      refine two_op (i := 5) (j := 13) rfl rfl (by kernel_rfl) (by rfl) (by rfl) ?_ ?_
      · (intro K hK; go_simp; refine hK.out _ _ (R1.keep ka).hd.cell (fun hHeld2 => ?_); clear hK K hHeld; have hHeld := hHeld2; clear hHeld2; (try simp only [Act.put, List.setIfInBounds_toArray, List.set_cons_zero, List.set_cons_succ]))
        have c2k := cell_keep ka c2
        (refine call_op (i := 13) rfl (by kernel_rfl) (by rfl) (fun K hK => ?_); go_simp; skip; refine hK.out _ _ (R1.keep ka).hd.cell (fun hHeld2 => ?_); clear hK K hHeld; have hHeld := hHeld2; clear hHeld2; (try simp only [Act.put, List.setIfInBounds_toArray, List.set_cons_zero, List.set_cons_succ]))
        (refine call_op (i := 14) rfl (by kernel_rfl) (by rfl) (fun K hK => ?_); (refine wp_app _ (.tmp 50) (.tmp 58) 60 rfl wd.heap.size 5 i0' _ 1 1 Try.underlying60 hi' hz0 hz1 hz2 rfl (by omega) _ 0 [] rfl hmade.1 f.tA f.T.length f.tc _ rfl srcT (by unfold maxLen; omega) (by omega) (by simp) ?_; intro v11 w11 hown11 hgrow11 hat11 hold11; have o11 : OwnB w11 wd.heap.size 5 v11 f.T := OwnB.join (l := []) hown11 (by simp) h256.out.1; have hb11 : Below wd.heap.size wd w11 := below_app ka hmade.1 hgrow11 (Nat.le_refl _) (by simp)); refine hK.out _ _ (R1.keep hb11).hd.cell (fun hHeld2 => ?_); clear hK K hHeld; have hHeld := hHeld2; clear hHeld2; (try simp only [Act.put, List.setIfInBounds_toArray, List.set_cons_zero, List.set_cons_succ]))
        have hz11 := hb11.size
        have srcP := Src.of_bytes (HB.keep hb11)
        clear hown11 hgrow11 hat11 hold11 srcT
        (refine call_op (i := 16) rfl (by kernel_rfl) (by rfl) (fun K hK => ?_); (refine wp_app _ (.tmp 59) (.tmp 60) 60 rfl wd.heap.size 5 i0' _ 1 1 Try.underlying60 hi' hz0 hz1 hz2 rfl (by omega) v11 f.T.length _ rfl o11.1 B p.length c _ rfl srcP (by unfold maxLen; omega) (by omega) hz11 ?_; intro v12 w12 hown12 hgrow12 hat12 hold12; have o12 : OwnB w12 wd.heap.size 5 v12 (f.T ++ p) := OwnB.join (l := f.T) hown12 h256.out.1 h256.out.2; have hb12 : Below wd.heap.size wd w12 := below_app hb11 o11.1 hgrow12 (Nat.le_refl _) hz11); refine hK.out _ _ (R1.keep hb12).hd.cell (fun hHeld2 => ?_); clear hK K hHeld; have hHeld := hHeld2; clear hHeld2; (try simp only [Act.put, List.setIfInBounds_toArray, List.set_cons_zero, List.set_cons_succ]))
        obtain ⟨A12, c12, hv12, _, _⟩ := o12.form
        subst hv12
        have R3 := put_new (i := i) (f := f) (f' := ⟨f.nm, f.S, f.T ++ p, f.sA, f.sc, A12, c12⟩) R1 hb12 hi (j := 2) (by omega) rfl (fun R => ⟨(fok.s.turn (P := fun _ => False) (Turn.of_below hb12) fun _ _ h => h).mono fun k hk => .inl hk, kb_own (R1.keep hb12) R1.lt o12, fok.nm⟩)
        have T3 := put_turn T1 hb12 (R1.Fr g hob) (i * 3 + 2) (.slice A12 (f.T ++ p).length c12)
        obtain ⟨g', hA, d0, d1, d2, ez, _⟩ := (R1.keep hb12).at_ hi
        cases hA
        have Q4 := Lib.hid (Hq.out _ _ _ _ _ (Hset.out i hi _ (by simp [KF.d])) R3 T3 (fun k hk => hk.imp id fun hk => Nat.le_trans T1.size hk.1))
        have pc3 := Lib.hid R3.hd.cell
        rw [List.length_set] at pc3
        rw [List.length_append] at Q4 pc3 ⊢
        clear o12 o11 hown12 hgrow12 hat12 hold12 R3 T3 hmade srcP
        (refine take_op (i := 17) (v := ?_) rfl (by kernel_rfl) (by kernel_rfl) (by kernel_rfl) (fun _ _ _ h => h) (by rfl) ?_ hHeld ?_; rotate_left; (· (intro wS hSw; (try dsimp only at hSw); go_simp; first | done | with_reducible rfl)); simp only [Act.put, List.setIfInBounds_toArray, List.set_cons_zero, List.set_cons_succ]); (refine take_op (i := 18) (v := ?_) rfl (by kernel_rfl) (by kernel_rfl) (by kernel_rfl) (fun _ _ _ h => h) (by rfl) ?_ hHeld ?_; rotate_left; (· (intro wS hSw; (try dsimp only at hSw); go_simp; first | done | with_reducible rfl)); simp only [Act.put, List.setIfInBounds_toArray, List.set_cons_zero, List.set_cons_succ])
        (refine call_op (i := 19) rfl (by kernel_rfl) (by rfl) (fun K hK => ?_); go_simp; skip; refine hK.out _ _ pc3.out (fun hHeld2 => ?_); clear hK K hHeld; have hHeld := hHeld2; clear hHeld2; (try simp only [Act.put, List.setIfInBounds_toArray, List.set_cons_zero, List.set_cons_succ]))
        (refine wpAnyH_done (by kernel_rfl) ?_ _)
        clear hHeld R1 T1 hb11 hb12 fok d0 d1 d2 ez pc3
        go_wp2_with fail
        go_ret
        exact Q4.out
      · (intro K hK; go_simp; refine hK.out _ _ R1.hd.cell (fun hHeld2 => ?_); clear hK K hHeld; have hHeld := hHeld2; clear hHeld2; (try simp only [Act.put, List.setIfInBounds_toArray, List.set_cons_zero, List.set_cons_succ]))
        (refine call_op (i := 5) rfl (by kernel_rfl) (by rfl) (fun K hK => ?_); go_simp; skip; refine hK.out _ _ (R1.keep ka).hd.cell (fun hHeld2 => ?_); clear hK K hHeld; have hHeld := hHeld2; clear hHeld2; (try simp only [Act.put, List.setIfInBounds_toArray, List.set_cons_zero, List.set_cons_succ]))
        (refine call_op (i := 14) rfl (by kernel_rfl) (by rfl) (fun K hK => ?_); (refine wp_app _ (.tmp 50) (.tmp 58) 60 rfl wd.heap.size 5 i0' _ 1 1 Try.underlying60 hi' hz0 hz1 hz2 rfl (by omega) _ 0 [] rfl hmade.1 f.tA f.T.length f.tc _ rfl srcT (by unfold maxLen; omega) (by omega) (by simp) ?_; intro v11 w11 hown11 hgrow11 hat11 hold11; have o11 : OwnB w11 wd.heap.size 5 v11 f.T := OwnB.join (l := []) hown11 (by simp) h256.out.1; have hb11 : Below wd.heap.size wd w11 := below_app ka hmade.1 hgrow11 (Nat.le_refl _) (by simp)); refine hK.out _ _ (R1.keep hb11).hd.cell (fun hHeld2 => ?_); clear hK K hHeld; have hHeld := hHeld2; clear hHeld2; (try simp only [Act.put, List.setIfInBounds_toArray, List.set_cons_zero, List.set_cons_succ]))
        have hz11 := hb11.size
        have srcP := Src.of_bytes (HB.keep hb11)
        clear hown11 hgrow11 hat11 hold11 srcT
        (refine call_op (i := 16) rfl (by kernel_rfl) (by rfl) (fun K hK => ?_); (refine wp_app _ (.tmp 59) (.tmp 60) 60 rfl wd.heap.size 5 i0' _ 1 1 Try.underlying60 hi' hz0 hz1 hz2 rfl (by omega) v11 f.T.length _ rfl o11.1 B p.length c _ rfl srcP (by unfold maxLen; omega) (by omega) hz11 ?_; intro v12 w12 hown12 hgrow12 hat12 hold12; have o12 : OwnB w12 wd.heap.size 5 v12 (f.T ++ p) := OwnB.join (l := f.T) hown12 h256.out.1 h256.out.2; have hb12 : Below wd.heap.size wd w12 := below_app hb11 o11.1 hgrow12 (Nat.le_refl _) hz11); refine hK.out _ _ (R1.keep hb12).hd.cell (fun hHeld2 => ?_); clear hK K hHeld; have hHeld := hHeld2; clear hHeld2; (try simp only [Act.put, List.setIfInBounds_toArray, List.set_cons_zero, List.set_cons_succ]))
        obtain ⟨A12, c12, hv12, _, _⟩ := o12.form
        subst hv12
        have R3 := put_new (i := i) (f := f) (f' := ⟨f.nm, f.S, f.T ++ p, f.sA, f.sc, A12, c12⟩) R1 hb12 hi (j := 2) (by omega) rfl (fun R => ⟨(fok.s.turn (P := fun _ => False) (Turn.of_below hb12) fun _ _ h => h).mono fun k hk => .inl hk, kb_own (R1.keep hb12) R1.lt o12, fok.nm⟩)
        have T3 := put_turn T1 hb12 (R1.Fr g hob) (i * 3 + 2) (.slice A12 (f.T ++ p).length c12)
        obtain ⟨g', hA, d0, d1, d2, ez, _⟩ := (R1.keep hb12).at_ hi
        cases hA
        have Q4 := Lib.hid (Hq.out _ _ _ _ _ (Hset.out i hi _ (by simp [KF.d])) R3 T3 (fun k hk => hk.imp id fun hk => Nat.le_trans T1.size hk.1))
        have pc3 := Lib.hid R3.hd.cell
        rw [List.length_set] at pc3
        rw [List.length_append] at Q4 pc3 ⊢
        clear o12 o11 hown12 hgrow12 hat12 hold12 R3 T3 hmade srcP
        (refine take_op (i := 17) (v := ?_) rfl (by kernel_rfl) (by kernel_rfl) (by kernel_rfl) (fun _ _ _ h => h) (by rfl) ?_ hHeld ?_; rotate_left; (· (intro wS hSw; (try dsimp only at hSw); go_simp; first | done | with_reducible rfl)); simp only [Act.put, List.setIfInBounds_toArray, List.set_cons_zero, List.set_cons_succ]); (refine take_op (i := 18) (v := ?_) rfl (by kernel_rfl) (by kernel_rfl) (by kernel_rfl) (fun _ _ _ h => h) (by rfl) ?_ hHeld ?_; rotate_left; (· (intro wS hSw; (try dsimp only at hSw); go_simp; first | done | with_reducible rfl)); simp only [Act.put, List.setIfInBounds_toArray, List.set_cons_zero, List.set_cons_succ])
        (refine call_op (i := 19) rfl (by kernel_rfl) (by rfl) (fun K hK => ?_); go_simp; skip; refine hK.out _ _ pc3.out (fun hHeld2 => ?_); clear hK K hHeld; have hHeld := hHeld2; clear hHeld2; (try simp only [Act.put, List.setIfInBounds_toArray, List.set_cons_zero, List.set_cons_succ]))
        (refine wpAnyH_done (by kernel_rfl) ?_ _)
        clear hHeld R1 T1 hb11 hb12 fok d0 d1 d2 ez pc3
        go_wp2_with fail
        go_ret
        exact Q4.out
end Go.Proofs.Ytpdfbkkhmfnnjaa
