/- The document's disk: Move, Read. -/
import Derived.Test.YtpdfbkkhmfnnjaaRkAct2
import Derived.Test.YtpdfbkkhmfnnjaaDkRead
import Derived.WalkKit
import Derived.WalkSpells
import Derived.WalkLawsBesides
import Derived.Deep.RegionHeld3
import Derived.Deep.DrawnRows
import Derived.Deep.DeepCutAuto
import Derived.Deep.DeepFit
import Derived.Lib.Hide
import Derived.BigQuiet
import Derived.Deep.QuietTactic
import Derived.Deep.RegionHeld3
namespace Go.Proofs.Ytpdfbkkhmfnnjaa
open Go.RowKit
set_option linter.unusedVariables false
set_option linter.unusedSimpArgs false
set_option maxRecDepth 20000
attribute [local go_sem ↓] Go.wp_at_zero Go.wp_at_succ
attribute [local go_sem] World.cell?_alloc_some frozen_alloc_some
attribute [local go_sem] lt2 lt3 lt4 lt5
attribute [local simp] lt2 lt3 lt4 lt5

set_option maxHeartbeats 8000000 in
theorem move12_any {F : Nat → Prop} {x : Nat} {d : DkT} (s t : NmT) (w : World) (h : RkAt w F x d) (hwt : t.length ≤ maxLen) :
    Calls Try.prog 56 #[.pointer (some ⟨x, 0, none⟩), sK s, sK t] w (Deeds12 w F x (deedD d fun l => moveC l s t)) := by
  obtain ⟨⟨fs, A, c, h1, h2⟩, ok⟩ := h
  have hdd := deed12_any F x fs A c d.room d.fuse d.down w h1 ⟨ok.fuse0, ok.fuse1⟩
  have h16 := rk_len ok h2
  by_cases hd : d.down = true ∨ d.fuse = 0
  · have FIN := Lib.hid (fun w1 R1 T1 => dead_fin (w := w) (w' := w1) (A := A) (c := c) ok h2 hd (fun l => moveC l s t) h1.Fx R1 T1)
    rw [deed_dead hd] at hdd
    clear h1 h2 ok h16 hd 
    go_enter Try.func56, Try.ntmps56
    go_wp2_with (go_at_call 86; (with_reducible refine hdd.mono ?_); rintro e w1 ⟨rfl, R1, T1⟩; have FIN2 := Lib.hid (FIN.out w1 R1 T1); clear R1 T1)
    go_ret
    exact FIN2.out
  · have FIN := Lib.hid (fun v l' (hact : (fun l => moveC l s t) d.l = (v, l')) F' fs' A' c' w1 h2' R1 T1 hF => live_fin (w := w) (w' := w1) (F := F) (F' := F') (fs := fs') (A := A') (c := c') (x := x) ok hd (act := fun l => moveC l s t) (v := v) (l' := l') hact (moveC_ok ok t) h2' R1 T1 hF)
    rw [deed_live hd] at hdd
    have hfd := rk_find h2 s
    have hx := h1.Fx
    have hlt := h1.lt
    generalize fuD d = fu at FIN hdd
    have TX : ∀ W, Turn (fun k => k = x) w W → Turn F w W := fun W T => T.mono fun k _ e => by rw [e]; exact hx
    cases hf : findBy KF.nm s fs with
    | none =>
      rw [hf] at hfd
      have hq := fun w1 R1 T1 => FIN.out 8 d.l (by simp only [moveC]; rw [hfd]; rfl) F fs A c w1 h2 R1 T1 fun k hk => .inl hk
      have Hq := Lib.hid hq
      have hno := fun W R => at12_no (s := s) (w := W) (F := F) (x := x) (A := A) (c := c) (room := d.room) (fuse := fu) (down := false) R h16 hf
      clear hq FIN h2 hfd hd ok
      go_enter Try.func56, Try.ntmps56
      go_wp2_with (first
        | (go_at_call 86; (with_reducible refine hdd.mono ?_); rintro e w1 ⟨rfl, R1, T1⟩; have FIN2 := Lib.hid (Hq.out w1 R1 (TX _ T1)); clear T1)
        | (go_at_call 88; (with_reducible refine (hno _ R1).mono ?_); rintro e w2 ⟨rfl, rfl⟩; clear R1))
      go_ret
      exact FIN2.out
    | some f =>
      rw [hf] at hfd
      simp only [Option.map_some] at hfd
      have hfm := (findBy_some hf).1
      have hfn := (findBy_some hf).2
      have htwo := rk_two ok h2 hfm
      have hyes := fun W R => at12_yes (s := s) (w := W) (F := F) (x := x) (A := A) (c := c) (room := d.room) (fuse := fu) (down := false) R h16 hf
      have hasc := ok.asc
      rw [← h2] at hasc
      have hnm := fun W => name12_any t W hwt
      cases hn : isNm t
      · rw [hn] at hnm
        have Hq := Lib.hid (fun w1 R1 T1 => FIN.out 1 d.l (by simp only [moveC]; rw [hfd]; simp only; rw [if_pos hn]) F fs A c w1 h2 R1 T1 fun k hk => .inl hk)
        clear FIN h2 hfd hd ok hasc
        go_enter Try.func56, Try.ntmps56
        go_wp2_with (first | (go_at_call 86; (with_reducible refine hdd.mono ?_); rintro e w1 ⟨rfl, R1, T1⟩; replace T1 := TX _ T1) | (go_at_call 88; (with_reducible refine (hyes _ R1).mono ?_); rintro e w2 ⟨i, rfl, rfl, hi⟩; have ni : ¬ (i : Int) < 0 := (by omega)) | (go_at_call 87; (with_reducible refine (hnm _).mono ?_); rintro e w3 ⟨rfl, hb3⟩; have Q4 := Lib.hid (Hq.out w3 (R1.keep hb3) (T1.trans (Turn.of_below (F := F) hb3) fun k hk => .inl hk))))
        go_ret
        exact Q4.out
      · rw [hn] at hnm
        have Hq := Lib.hid (fun F' fs' A' c' w1 h2' R1 T1 hF => FIN.out 0 (insBy Prod.fst (t, f.S ++ f.T, (f.S ++ f.T).length) (outBy Prod.fst t (outBy Prod.fst s d.l))) (by simp only [moveC]; rw [hfd]; simp only; rw [if_neg (by rw [hn]; simp)]) F' fs' A' c' w1 h2' R1 T1 hF)
        have Hmap := Lib.hid (fun (A3 : Option Addr) (c3 : Nat) => show (insBy KF.nm ⟨t, f.S ++ f.T, [], A3, c3, none, 0⟩ (outBy KF.nm t (outBy KF.nm s fs))).map KF.d = insBy Prod.fst (t, f.S ++ f.T, (f.S ++ f.T).length) (outBy Prod.fst t (outBy Prod.fst s d.l)) by
          rw [← h2, insBy_map (nm := KF.nm) (nm' := Prod.fst) (d := KF.d) (fun _ => rfl), outBy_map (nm := KF.nm) (nm' := Prod.fst) (d := KF.d) (fun _ => rfl), outBy_map (nm := KF.nm) (nm' := Prod.fst) (d := KF.d) (fun _ => rfl)]
          simp [KF.d])
        have l1 : (outBy KF.nm s fs).length ≤ fs.length := List.length_filter_le _ _
        have l2 : (outBy KF.nm t (outBy KF.nm s fs)).length ≤ (outBy KF.nm s fs).length := List.length_filter_le _ _
        clear FIN h2 hfd hd ok hasc
        go_enter Try.func56, Try.ntmps56
        go_upto_region 8 with (first | (go_at_call 86; (with_reducible refine hdd.mono ?_); rintro e w1 ⟨rfl, R1, T1⟩; replace T1 := TX _ T1) | (go_at_call 88; (with_reducible refine (hyes _ R1).mono ?_); rintro e w2 ⟨i, rfl, rfl, hi⟩; have ni : ¬ (i : Int) < 0 := (by omega)) | (go_at_call 87; (with_reducible refine (hnm _).mono ?_); rintro e w3 ⟨rfl, hb3⟩; replace T1 := (T1.trans (Turn.of_below (F := F) hb3) fun k hk => .inl hk); replace R1 := R1.keep hb3))
        have i0 : (0 : Int) ≤ (i : Int) := by omega
        have i1 : (i : Int) < (fs.length : Int) := by have := (List.getElem?_eq_some_iff.1 hi).1; omega
        obtain ⟨g, hA, c0, c1, c2, fz, hob⟩ := R1.at_ hi
        subst hA
        have fok := R1.ok f hfm
        have hall := all12_any s f.S f.T f.sA f.tA f.sc f.tc w3 fok.s.b fok.t.b htwo
        have pc := R1.hd.cell
        go_upto_region 9 with (go_at_call 90; (with_reducible refine hall.mono ?_); rintro e w4 ⟨A3, c3, rfl, o3, hb4⟩; clear hall)
        clear c0 c1 c2 fz pc
        have hb5 := hb4.alloc hb4.size (.cells #[sK t, .slice A3 (f.S.length + f.T.length) c3, .slice none 0 0] 110)
        have o5 := o3.keep (below_one (.cells #[sK t, .slice A3 (f.S.length + f.T.length) c3, .slice none 0 0] 110))
        have R5 := (R1.keep hb5).grow w3.heap.size
        have kb := kb_own (R1.keep hb5) R1.lt o5
        have B5 := Blk.new w4 110 #[sK t, .slice A3 (f.S.length + f.T.length) c3, .slice none 0 0]
        have hz3 := T1.size
        have hz4 := hb4.size
        have hxb : ¬ w4.heap.size = x := fun e => by have := R1.lt x hx; omega
        generalize hW5 : w4.alloc _ = w5 at R5 kb B5 hb5 ⊢
        have T5 := T1.trans (Turn.of_below (F := F) hb5) fun k hk => .inl hk
        generalize hF5 : (fun k => F k ∨ (w3.heap.size ≤ k ∧ k < w5.heap.size)) = F5 at R5 kb
        have hF5a : ∀ k, F5 k → F k ∨ w3.heap.size ≤ k := fun k hk => by rw [← hF5] at hk; exact hk.imp id fun h => h.1
        have p1 := drop12_any F5 x fs _ c d.room fu false s w5 R5 (by omega)
        clear o3 o5 hF5 hW5 hb5
        go_upto_region 10 with (go_at_call 91; (with_reducible refine p1.mono ?_); rintro e w6 ⟨rfl, F6, A6, c6, R6, T6, hF6a, hF6b⟩)
        have p2 := drop12_any F6 x (outBy KF.nm s fs) A6 c6 d.room fu false t w6 R6 (by omega)
        clear p1
        go_upto_region 11 with (go_at_call 91; (with_reducible refine p2.mono ?_); rintro e w7 ⟨rfl, F7, A7, c7, R7, T7, hF7a, hF7b⟩)
        have hxk : ∀ ad, A3 = some ad → ¬ ad.block = x := fun ad e => (kb.o ad e).2.1
        have kb7 := ((kb.turn T6 hxk).turn T7 hxk).mono (fun k hk => hF7a k (hF6a k hk))
        have kok : KOk w7 F7 x none ⟨t, f.S ++ f.T, [], A3, c3, none, 0⟩ := ⟨⟨kb7.b, kb7.le, kb7.cm, fun ad e => ⟨(kb7.o ad e).1, (kb7.o ad e).2.1, by simp⟩⟩, KB.nil, hwt⟩
        have p3 : Calls Try.prog 89 #[.pointer (some ⟨x, 0, none⟩), .agg #[sK t, .slice A3 (f.S.length + f.T.length) c3, .slice none 0 0]] w7 (SetsP w7 F7 x (insBy KF.nm ⟨t, f.S ++ f.T, [], A3, c3, none, 0⟩ (outBy KF.nm t (outBy KF.nm s fs))) d.room fu false) := by
          rw [show f.S.length + f.T.length = (f.S ++ f.T).length from List.length_append.symm]
          exact put12_any F7 x (outBy KF.nm t (outBy KF.nm s fs)) A7 c7 d.room fu false _ w7 R7 kok (by omega)
        have B7 := T7.blk (T6.blk B5 hxb) hxb
        have b0 := B7.cell 0
        have b1 := B7.cell 1
        have b2 := B7.cell 2
        have hx5 : F5 x := R5.Fx
        have T7' : Turn F w w7 := (T5.trans T6 fun k e => .inl (by rw [e]; exact hx)).trans T7 fun k e => .inl (by rw [e]; exact hx)
        have hF7 : ∀ k, F7 k → F k ∨ w.heap.size ≤ k := fun k hk => by
          rcases hF7b k hk with hk | hk
          · rcases hF6b k hk with hk | hk
            · rcases hF5a k hk with hk | hk
              · exact .inl hk
              · exact .inr (by omega)
            · have := T5.size; exact .inr (by omega)
          · have := T5.size; have := T6.size; exact .inr (by omega)
        clear p2 kb kb7 kok R5 R6 R7 B5 B7 T5 T6 T7 hF7a hF7b hF6a hF6b hF5a R1 T1 fok hb4 hyes hdd h1
        go_wp2_with (go_at_call 89; (with_reducible refine p3.mono ?_); rintro e w8 ⟨rfl, F8, A8, c8, R8, T8, hF8a, hF8b⟩; have Q4 := Lib.hid (Hq.out F8 _ A8 c8 w8 (Hmap.out A3 c3) R8 (T7'.trans T8 fun k e => .inl (by rw [e]; exact hx)) (fun k hk => by rcases hF8b k hk with hk | hk; exact hF7 k hk; exact .inr (Nat.le_trans T7'.size hk))))
        go_ret
        exact Q4.out
set_option maxHeartbeats 8000000 in
theorem read12_any {F : Nat → Prop} {x : Nat} {d : DkT} (s : NmT) (w : World) (h : RkAt w F x d) :
    Calls Try.prog 58 #[.pointer (some ⟨x, 0, none⟩), sK s] w (Reads w (readD d s)) := by
  obtain ⟨⟨fs, A, c, h1, h2⟩, ok⟩ := h
  have h16 := rk_len ok h2
  have pc := h1.hd.cell
  have hfd := rk_find h2 s
  by_cases hdn : d.down = true
  · rw [hdn] at pc
    rw [show readD d s = (none, 15) by simp [readD, hdn]]
    clear h1 h2 ok hfd hdn
    go_enter Try.func58, Try.ntmps58
    go_wp2_with fail
    go_ret2
    exact ⟨_, rfl, OwnB.nil_ _ _ _, Below.refl _ _⟩
  · obtain hdn2 : d.down = false := by cases h : d.down <;> simp_all
    rw [hdn2] at pc
    cases hf : findBy KF.nm s fs with
    | none =>
      rw [hf] at hfd
      have hno := at12_no (s := s) h1 h16 hf
      rw [show readD d s = (none, 8) by simp only [readD]; rw [if_neg hdn, hfd]; rfl]
      clear h1 h2 ok hfd hdn hdn2
      go_enter Try.func58, Try.ntmps58
      go_wp2_with (go_at_call 88; (with_reducible refine hno.mono ?_); rintro e w2 ⟨rfl, rfl⟩)
      go_ret2
      exact ⟨_, rfl, OwnB.nil_ _ _ _, Below.refl _ _⟩
    | some f =>
      rw [hf] at hfd
      have hyes := at12_yes (s := s) h1 h16 hf
      have hfm := (findBy_some hf).1
      have hfn := (findBy_some hf).2
      have htwo := rk_two ok h2 hfm
      have R1 := h1
      rw [show readD d s = (some (f.S ++ f.T), 0) by simp only [readD]; rw [if_neg hdn, hfd]; rfl]
      clear h2 ok hfd hdn hdn2
      go_enter Try.func58, Try.ntmps58
      go_wp2_with (first
        | (go_at_call 88; (with_reducible refine hyes.mono ?_); rintro e w2 ⟨i, rfl, rfl, hi⟩; have ni : ¬ (i : Int) < 0 := (by omega); have i0 : (0 : Int) ≤ (i : Int) := (by omega); have i1 : (i : Int) < (fs.length : Int) := (by have := (List.getElem?_eq_some_iff.1 hi).1; omega); obtain ⟨g, hA, c0, c1, c2, fz, hob⟩ := R1.at_ hi; subst hA; have fok := R1.ok f hfm; have hall := all12_any s f.S f.T f.sA f.tA f.sc f.tc w2 fok.s.b fok.t.b htwo)
        | (go_at_call 90; (with_reducible refine hall.mono ?_); rintro e w3 ⟨A3, c3, rfl, o3, hb3⟩; clear hall))
      rw [← List.length_append] at *
      go_ret2
      exact ⟨_, rfl, o3, hb3⟩
end Go.Proofs.Ytpdfbkkhmfnnjaa
