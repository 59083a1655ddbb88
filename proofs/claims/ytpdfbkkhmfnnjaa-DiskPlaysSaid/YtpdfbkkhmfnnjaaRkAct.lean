/- The document's disk: what a deed answers; Sync, Remove, Read. -/
import Derived.Test.YtpdfbkkhmfnnjaaRkPut
import Derived.Test.YtpdfbkkhmfnnjaaRkName
import Derived.WalkKit
import Derived.WalkSpells
import Derived.WalkLawsBesides
import Derived.Deep.RegionHeld3
import Derived.Deep.DrawnRows
import Derived.Deep.DeepCutAuto
import Derived.Deep.DeepFit
import Derived.Lib.Hide
import Derived.BigQuiet
import Derived.Deep.QuietTactic
import Derived.Deep.RegionHeld3
namespace Go.Proofs.Ytpdfbkkhmfnnjaa
open Go.RowKit
set_option linter.unusedVariables false
set_option linter.unusedSimpArgs false
set_option maxRecDepth 20000
attribute [local go_sem ↓] Go.wp_at_zero Go.wp_at_succ
attribute [local go_sem] World.cell?_alloc_some frozen_alloc_some
attribute [local go_sem] lt2 lt3 lt4 lt5
attribute [local simp] lt2 lt3 lt4 lt5

/-- A deed on the document's disk: an error's number, and the disk behind it. -/
def Deeds12 (w : World) (F : Nat → Prop) (x : Nat) (r : Int × DkT) (e : Ending) (w' : World) : Prop :=
  e = .returned (.int .i64 r.1) ∧ ∃ F' : Nat → Prop, RkAt w' F' x r.2 ∧ Turn F w w' ∧ ∀ k, F' k → F k ∨ w.heap.size ≤ k
theorem turn_set (w : World) (g i : Nat) (v : Value) : Turn (fun k => k = g) w (w.setCell ⟨g, i, none⟩ v) :=
  ⟨rfl, rfl, rfl, by simp, fun k hk hn => heap_setCell_other w ⟨g, i, none⟩ k v (fun e => hn e)⟩
def fuD (d : DkT) : Int := if 0 < d.fuse then d.fuse - 1 else d.fuse
theorem dead_fin {w w' : World} {F : Nat → Prop} {x : Nat} {fs : List KF} {A : Option Addr} {c : Nat} {d : DkT} (ok : DkOk d) (h2 : fs.map KF.d = d.l) (hd : d.down = true ∨ d.fuse = 0) (act : List DF → Int × List DF) (hx : F x)
    (R : RkG w' F x fs A c d.room d.fuse true) (T : Turn (fun k => k = x) w w') : Deeds12 w F x (deedD d act) (.returned (.int .i64 15)) w' := by
  unfold deedD
  rw [if_pos hd]
  exact ⟨rfl, F, ⟨⟨fs, A, c, R, h2⟩, ok.fu d.fuse ⟨ok.fuse0, ok.fuse1⟩ true⟩, T.mono fun k _ e => by rw [e]; exact hx, fun k hk => .inl hk⟩
theorem live_fin {w w' : World} {F F' : Nat → Prop} {x : Nat} {fs : List KF} {A : Option Addr} {c : Nat} {d : DkT} (ok : DkOk d) (hd : ¬ (d.down = true ∨ d.fuse = 0)) {act : List DF → Int × List DF} {v : Int} {l' : List DF} (hact : act d.l = (v, l')) (hok : DkOk { d with l := (act d.l).2 })
    (h2 : fs.map KF.d = l') (R : RkG w' F' x fs A c d.room (fuD d) false) (T : Turn F w w') (hF : ∀ k, F' k → F k ∨ w.heap.size ≤ k) : Deeds12 w F x (deedD d act) (.returned (.int .i64 v)) w' := by
  unfold deedD
  rw [if_neg hd]
  have hdn : d.down = false := by cases h : d.down <;> simp_all
  have h0 := ok.fuse0
  have h1 := ok.fuse1
  have hfu : -1 ≤ fuD d ∧ fuD d ≤ 9223372036854775807 := by unfold fuD; split <;> omega
  refine ⟨by rw [hact], F', ⟨⟨fs, A, c, ?_, ?_⟩, ?_⟩, T, hF⟩
  · rw [hdn]; exact R
  · rw [hact]; exact h2
  · have := DkOk.fu hok (fuD d) hfu false
    rw [hdn]
    exact this
theorem deed_dead {d : DkT} (hd : d.down = true ∨ d.fuse = 0) : deedR d.fuse d.down = (true, d.fuse, true) := by
  unfold deedR; rw [if_pos (by rcases hd with h | h <;> simp [h])]
theorem deed_live {d : DkT} (hd : ¬ (d.down = true ∨ d.fuse = 0)) : deedR d.fuse d.down = (false, fuD d, false) := by
  have hdn : d.down = false := by cases h : d.down <;> simp_all
  unfold deedR; rw [if_neg hd]; rw [hdn]; rfl
theorem rk_find {fs : List KF} {l : List DF} (h2 : fs.map KF.d = l) (s : NmT) : findBy Prod.fst s l = (findBy KF.nm s fs).map KF.d := by
  rw [← h2]; exact findBy_map (fun _ => rfl) s fs
theorem at12_no {F : Nat → Prop} {x : Nat} {fs : List KF} {A : Option Addr} {c : Nat} {room fuse : Int} {down : Bool} {s : NmT} {w : World} (h : RkG w F x fs A c room fuse down) (h16 : fs.length ≤ 16) (hn : findBy KF.nm s fs = none) :
    Calls Try.prog 88 #[.pointer (some ⟨x, 0, none⟩), sK s] w (fun e w' => e = .returned (.int .i64 (-1)) ∧ w' = w) := by
  refine (at12_any F x fs A c room fuse down s w h h16).mono ?_
  rintro e w' ⟨rfl, (⟨rfl, _⟩ | ⟨i, f, _, _, _, hf⟩)⟩
  · exact ⟨rfl, rfl⟩
  · rw [hn] at hf; cases hf
def AtYes (w : World) (fs : List KF) (f : KF) (e : Ending) (w' : World) : Prop := ∃ i : Nat, e = .returned (.int .i64 (i : Int)) ∧ w' = w ∧ fs[i]? = some f
theorem at12_yes {F : Nat → Prop} {x : Nat} {fs : List KF} {A : Option Addr} {c : Nat} {room fuse : Int} {down : Bool} {s : NmT} {w : World} {f : KF} (h : RkG w F x fs A c room fuse down) (h16 : fs.length ≤ 16) (hn : findBy KF.nm s fs = some f) :
    Calls Try.prog 88 #[.pointer (some ⟨x, 0, none⟩), sK s] w (AtYes w fs f) := by
  refine (at12_any F x fs A c room fuse down s w h h16).mono ?_
  rintro e w' ⟨rfl, (⟨_, hf⟩ | ⟨i, f2, rfl, hi, _, hf⟩)⟩
  · rw [hn] at hf; cases hf
  · rw [hn] at hf; injection hf with hf; subst hf; exact ⟨i, rfl, rfl, hi⟩
theorem set_upd {fs : List KF} {i : Nat} {f f' : KF} {s : NmT} {u : DF → DF} (hi : fs[i]? = some f) (hn : f.nm = s) (asc : AscBy Prod.fst (fs.map KF.d)) (hd : f'.d = u f.d) : (fs.set i f').map KF.d = updBy Prod.fst s u (fs.map KF.d) := by
  have hl : i < fs.length := (List.getElem?_eq_some_iff.1 hi).1
  have e : fs.map KF.d = (fs.take i).map KF.d ++ f.d :: (fs.drop (i + 1)).map KF.d := by
    have h1 := (List.take_append_drop i fs).symm
    rw [List.drop_eq_getElem_cons hl] at h1
    rw [(List.getElem?_eq_some_iff.1 hi).2] at h1
    rw [← List.map_cons, ← List.map_append]
    exact congrArg (List.map KF.d) h1
  rw [e] at asc ⊢
  have h3 := upd_mid (u := u) asc
  rw [show (f.d).1 = s from hn] at h3
  rw [h3, List.set_eq_take_append_cons_drop, if_pos hl, List.map_append, List.map_cons, hd]
theorem RkG.grow {W : World} {F : Nat → Prop} {x : Nat} {fs : List KF} {A : Option Addr} {c : Nat} {room fuse : Int} {down : Bool} (h : RkG W F x fs A c room fuse down) (B : Nat) : RkG W (fun k => F k ∨ (B ≤ k ∧ k < W.heap.size)) x fs A c room fuse down :=
  h.mono (fun k hk => .inl hk) fun k hk => by rcases hk with hk | hk; exact h.lt k hk; exact hk.2
theorem kb_own {W : World} {F : Nat → Prop} {x : Nat} {fs : List KF} {A A' : Option Addr} {c n' c' B : Nat} {room fuse : Int} {down : Bool} {e : TypeId} {l : List Nat} (h : RkG W F x fs A c room fuse down) (hB : ∀ k, F k → k < B) (o : OwnB W B e (.slice A' n' c') l) : KB W (fun k => F k ∨ (B ≤ k ∧ k < W.heap.size)) x (.slice A fs.length c : Value).ownBlock A' l.length c' l := by
  obtain ⟨rfl, h1, h2⟩ := o.bytes
  obtain ⟨_, _, hv, _, h3⟩ := o.form
  injection hv with _ _ hv
  subst hv
  refine ⟨h2, h1, h3, fun ad ea => ?_⟩
  subst ea
  have hk := o.1.lt
  rcases o.1.2 with ⟨h0, _⟩ | ⟨g, cap, cur, e1, hbs, hg, _⟩
  · cases h0
  · injection e1 with e1 _ _
    injection e1 with e1
    subst e1
    have hlt : g < W.heap.size := (Array.getElem?_eq_some_iff.1 hg).1
    exact ⟨.inr ⟨hbs, hlt⟩, fun e => by have := hB _ h.Fx; simp only at e; omega, fun e => by have := hB _ (h.Fr _ e); simp only at this; omega⟩
theorem rk_len {fs : List KF} {d : DkT} (ok : DkOk d) (h2 : fs.map KF.d = d.l) : fs.length ≤ 16 := by have := ok.len; rw [← h2, List.length_map] at this; exact this
theorem rk_two {fs : List KF} {d : DkT} (ok : DkOk d) (h2 : fs.map KF.d = d.l) {f : KF} (hf : f ∈ fs) : f.S.length + f.T.length ≤ 1073741824 := by
  have h1 := ok.tot
  have h3 := ok.room1
  rw [← h2] at h1
  have h4 : f.S.length + f.T.length ≤ totD (fs.map KF.d) := by
    obtain ⟨i, hi⟩ := List.getElem?_of_mem hf
    have hl : i < fs.length := (List.getElem?_eq_some_iff.1 hi).1
    have e : fs = fs.take i ++ f :: fs.drop (i + 1) := by
      have h1 := (List.take_append_drop i fs).symm
      rw [List.drop_eq_getElem_cons hl] at h1
      rw [(List.getElem?_eq_some_iff.1 hi).2] at h1
      exact h1
    rw [e]
    simp [totD, KF.d]
    omega
  omega
abbrev hdK (A : Option Addr) (n c : Nat) (room fuse : Int) (down : Bool) : Array Value := #[.slice A n c, .int .i64 room, .int .i64 fuse, .bool down]
set_option maxHeartbeats 4000000 in
theorem remove12_any {F : Nat → Prop} {x : Nat} {d : DkT} (s : NmT) (w : World) (h : RkAt w F x d) :
    Calls Try.prog 57 #[.pointer (some ⟨x, 0, none⟩), sK s] w (Deeds12 w F x (deedD d fun l => remC l s)) := by
  obtain ⟨⟨fs, A, c, h1, h2⟩, ok⟩ := h
  have hdd := deed12_any F x fs A c d.room d.fuse d.down w h1 ⟨ok.fuse0, ok.fuse1⟩
  have h16 := rk_len ok h2
  by_cases hd : d.down = true ∨ d.fuse = 0
  · have FIN := Lib.hid (fun w1 R1 T1 => dead_fin (w := w) (w' := w1) (A := A) (c := c) ok h2 hd (fun l => remC l s) h1.Fx R1 T1)
    rw [deed_dead hd] at hdd
    clear h1 h2 ok h16 hd
    go_enter Try.func57, Try.ntmps57
    go_wp2_with (go_at_call 86; (with_reducible refine hdd.mono ?_); rintro e w1 ⟨rfl, R1, T1⟩; have FIN2 := Lib.hid (FIN.out w1 R1 T1); clear R1 T1)
    go_ret
    exact FIN2.out
  · have FIN := Lib.hid (fun v l' (hact : remC d.l s = (v, l')) F' fs' A' c' w1 h2' R1 T1 hF => live_fin (w := w) (w' := w1) (F := F) (F' := F') (fs := fs') (A := A') (c := c') (x := x) ok hd (act := fun l => remC l s) (v := v) (l' := l') hact (remC_ok ok) h2' R1 T1 hF)
    rw [deed_live hd] at hdd
    have hfd := rk_find h2 s
    have hx := h1.Fx
    generalize fuD d = fu at FIN hdd
    have hlt := h1.lt
    clear hd ok
    cases hf : findBy KF.nm s fs with
    | none =>
      rw [hf] at hfd
      have hq := fun w1 R1 T1 => FIN.out 8 d.l (by unfold remC; rw [hfd]; rfl) F fs A c w1 h2 R1 T1 fun k hk => .inl hk
      have Hq := Lib.hid hq
      have hno := fun W R => at12_no (s := s) (w := W) (F := F) (x := x) (A := A) (c := c) (room := d.room) (fuse := fu) (down := false) R h16 hf
      clear hq FIN h2 hfd
      go_enter Try.func57, Try.ntmps57
      go_wp2_with (first
        | (go_at_call 86; (with_reducible refine hdd.mono ?_); rintro e w1 ⟨rfl, R1, T1⟩; have FIN2 := Lib.hid (Hq.out w1 R1 (T1.mono fun k _ e => by rw [e]; exact hx)); clear T1)
        | (go_at_call 88; (with_reducible refine (hno _ R1).mono ?_); rintro e w2 ⟨rfl, rfl⟩; clear R1))
      go_ret
      exact FIN2.out
    | some f =>
      rw [hf] at hfd
      have hq := fun F' A' c' w1 R1 T1 hF => FIN.out 0 (outBy Prod.fst s d.l) (by unfold remC; rw [hfd]; rfl) F' (outBy KF.nm s fs) A' c' w1 (by rw [← h2]; exact outBy_map (nm := KF.nm) (nm' := Prod.fst) (d := KF.d) (fun _ => rfl) s fs) R1 T1 hF
      have Hq := Lib.hid hq
      have hyes := fun W R => at12_yes (s := s) (w := W) (F := F) (x := x) (A := A) (c := c) (room := d.room) (fuse := fu) (down := false) R h16 hf
      have hdr := fun W R => drop12_any F x fs A c d.room fu false s W R (by omega)
      clear hq FIN h2 hfd
      go_enter Try.func57, Try.ntmps57
      go_wp2_with (first
        | (go_at_call 86; (with_reducible refine hdd.mono ?_); rintro e w1 ⟨rfl, R1, T1⟩)
        | (go_at_call 88; (with_reducible refine (hyes _ R1).mono ?_); rintro e w2 ⟨i, rfl, rfl, hi⟩; have ni : ¬ (i : Int) < 0 := by omega)
        | (go_at_call 91; (with_reducible refine (hdr _ R1).mono ?_); rintro e w3 ⟨rfl, F', A', c', R3, T3, hF1, hF2⟩; have FIN2 := Lib.hid (Hq.out F' A' c' w3 R3 ((T1.mono fun k _ e => by rw [e]; exact hx).trans T3 (fun k e => .inl (by rw [e]; exact hx))) (fun k hk => (hF2 k hk).imp id (fun hk => Nat.le_trans T1.size hk))); clear R3 T3 hF1 hF2 R1 T1))
      go_ret
      exact FIN2.out
end Go.Proofs.Ytpdfbkkhmfnnjaa
