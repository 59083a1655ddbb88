/- The document's disk: Boot. -/
import Derived.Test.YtpdfbkkhmfnnjaaRkAct2
import Derived.Test.YtpdfbkkhmfnnjaaDkBoot
import Derived.WalkKit
import Derived.WalkSpells
import Derived.WalkLawsBesides
import Derived.Deep.RegionHeld3
import Derived.Deep.DrawnRows
import Derived.Deep.DeepCutAuto
import Derived.Deep.DeepFit
import Derived.Lib.Hide
import Derived.BigQuiet
import Derived.Deep.QuietTactic
import Derived.Deep.RegionHeld3
namespace Go.Proofs.Ytpdfbkkhmfnnjaa
open Go.RowKit
set_option linter.unusedVariables false
set_option linter.unusedSimpArgs false
set_option maxRecDepth 20000
attribute [local go_sem ↓] Go.wp_at_zero Go.wp_at_succ
attribute [local go_sem] World.cell?_alloc_some frozen_alloc_some
attribute [local go_sem] lt2 lt3 lt4 lt5
attribute [local simp] lt2 lt3 lt4 lt5

def BootP (w : World) (F : Nat → Prop) (x : Nat) (d : DkT) (e : Ending) (w' : World) : Prop :=
  e = .returned (.tuple #[]) ∧ ∃ F' : Nat → Prop, RkAt w' F' x d ∧ Turn F w w' ∧ ∀ k, F' k → F k ∨ w.heap.size ≤ k
/-- The loop under way: i files are done, kk numbers are used. -/
structure BootG (w W : World) (F F' : Nat → Prop) (x : Nat) (fs : List KF) (A : Option Addr) (c : Nat) (room fuse : Int) (down : Bool) (l : List DF) (ks : List Int) (i kk : Nat) : Prop where
  R : RkG W F' x fs A c room fuse down
  e : fs.map KF.d = (bootGo (l.take i) ks).1 ++ l.drop i
  k : (bootGo (l.take i) ks).2 = ks.drop kk
  T : Turn F w W
  nF : ∀ k, F' k → F k ∨ w.heap.size ≤ k
def bootN (t : Nat) (ks : List Int) : Nat := if t = 0 then 0 else match ks with | [] => t | v :: _ => (min (max v 0) (t : Int)).toNat
theorem bootF_eq (s : NmT) (S T : List Nat) (ks : List Int) : bootF (s, S ++ T, S.length) ks = ((s, S ++ T.take (bootN T.length ks), (S ++ T.take (bootN T.length ks)).length), if T.length = 0 then ks else ks.tail) := by
  unfold bootF bootN
  simp only [List.length_append]
  by_cases h : T.length = 0
  · have : T = [] := List.eq_nil_of_length_eq_zero h
    subst this
    simp
  · rw [if_pos (by omega), if_neg h, if_neg h]
    cases ks with
    | nil => simp
    | cons v r =>
      simp only [List.tail_cons]
      have h1 : S.length + T.length - S.length = T.length := by omega
      rw [h1]
      have h2 : (min (max v 0) (T.length : Int)).toNat ≤ T.length := by omega
      rw [List.take_length_add_append, List.length_take, Nat.min_eq_left h2]
theorem totD_mem {l : List DF} {t : DF} (h : t ∈ l) : t.2.1.length ≤ totD l := by
  induction l with
  | nil => cases h
  | cons a r ih =>
    simp only [totD, List.map_cons, List.sum_cons] at ih ⊢
    rcases List.mem_cons.1 h with rfl | h
    · omega
    · have := ih h; omega
theorem BootG.file {w W : World} {F F' : Nat → Prop} {x : Nat} {fs : List KF} {A : Option Addr} {c : Nat} {room fuse : Int} {down : Bool} {l : List DF} {ks : List Int} {i kk : Nat} (h : BootG w W F F' x fs A c room fuse down l ks i kk) (hi : i < l.length) : ∃ f, fs[i]? = some f ∧ l[i]? = some f.d := by
  have h1 : (fs.map KF.d)[i]? = l[i]? := by
    have hl : (bootGo (l.take i) ks).1.length = i := by rw [bootGo_length, List.length_take]; omega
    rw [h.e, List.getElem?_append_right (by omega), hl, List.getElem?_drop]
    simp
  rw [List.getElem?_eq_getElem hi, List.getElem?_map] at h1
  cases hf : fs[i]? with
  | none => rw [hf] at h1; cases h1
  | some f =>
    rw [hf] at h1
    simp only [Option.map_some, Option.some.injEq] at h1
    exact ⟨f, rfl, by rw [List.getElem?_eq_getElem hi, h1]⟩
/-- A file is done. -/
theorem BootG.step {w W W' : World} {F F' F2 : Nat → Prop} {x : Nat} {fs : List KF} {A : Option Addr} {c : Nat} {room fuse : Int} {down : Bool} {l : List DF} {ks : List Int} {i kk kk' : Nat} (h : BootG w W F F' x fs A c room fuse down l ks i kk) {f f' : KF} (hi : fs[i]? = some f) (hl : l[i]? = some f.d)
    (hd : f'.d = (f.nm, f.S ++ f.T.take (bootN f.T.length (ks.drop kk)), (f.S ++ f.T.take (bootN f.T.length (ks.drop kk))).length)) (hk : (if f.T.length = 0 then ks.drop kk else (ks.drop kk).tail) = ks.drop kk') (R : RkG W' F2 x (fs.set i f') A c room fuse down) (T : Turn F w W') (nF : ∀ k, F2 k → F k ∨ w.heap.size ≤ k) :
    BootG w W' F F2 x (fs.set i f') A c room fuse down l ks (i + 1) kk' := by
  have hlt : i < l.length := (List.getElem?_eq_some_iff.1 hl).1
  have hsn : l.take (i + 1) = l.take i ++ [f.d] := by rw [List.take_add_one, hl]; rfl
  have hgo := bootGo_snoc (l.take i) f.d ks
  rw [← hsn, h.k] at hgo
  have hbf := bootF_eq f.nm f.S f.T (ks.drop kk)
  rw [show (f.nm, f.S ++ f.T, f.S.length) = f.d from rfl] at hbf
  rw [hbf] at hgo
  refine ⟨R, ?_, by rw [hgo]; exact hk, T, nF⟩
  rw [hgo, List.map_set, hd, h.e]
  have hl2 : (bootGo (l.take i) ks).1.length = i := by rw [bootGo_length, List.length_take]; omega
  rw [List.set_append_right _ _ (by omega), hl2, Nat.sub_self, List.drop_eq_getElem_cons hlt, List.set_cons_zero]
  simp
theorem turn_up {w W W' : World} {F F' : Nat → Prop} (T1 : Turn F' W W') (T : Turn F w W) (nF : ∀ k, F' k → F k ∨ w.heap.size ≤ k) : Turn F w W' := T.trans T1 nF
/-- A file is done: what stands behind its round. -/
theorem boot_done {w W : World} {F F' : Nat → Prop} {x : Nat} {fs : List KF} {g c : Nat} {room fuse : Int} {down : Bool} {l : List DF} {ks : List Int} {i kk : Nat} (h : BootG w W F F' x fs (some ⟨g, 0, none⟩) c room fuse down l ks i kk) {f : KF} (hi : fs[i]? = some f) (hl : l[i]? = some f.d) (hll : fs.length = l.length) (hFg : F g)
    (nn kk' : Nat) (hn : nn = bootN f.T.length (ks.drop kk)) (hk : (if f.T.length = 0 then ks.drop kk else (ks.drop kk).tail) = ks.drop kk') (hle : nn ≤ f.T.length) (wd : World) (hd : Below W.heap.size W wd) (A12 : Option Addr) (c12 : Nat) (w12 : World) (o : OwnB w12 wd.heap.size 5 (.slice A12 (f.S ++ f.T.take nn).length c12) (f.S ++ f.T.take nn)) (hb : Below wd.heap.size wd w12) :
    ((∀ j, (w12.setCell ⟨g, i * 3 + 1, none⟩ (.slice A12 (f.S ++ f.T.take nn).length c12)).cell? ⟨x, j, none⟩ = (hdK (some ⟨g, 0, none⟩) l.length c room fuse down)[j]?) ∧ (w12.setCell ⟨g, i * 3 + 1, none⟩ (.slice A12 (f.S ++ f.T.take nn).length c12)).cell? ⟨g, i * 3 + 2, none⟩ = some (.slice f.tA f.T.length f.tc) ∧ w12.cell? ⟨g, i * 3 + 1, none⟩ = some (.slice f.sA f.S.length f.sc) ∧ (∀ j, w12.frozen? ⟨g, j, none⟩ = false)) ∧
    (∀ j, (w12.setCell ⟨g, i * 3 + 1, none⟩ (.slice A12 (f.S ++ f.T.take nn).length c12)).frozen? ⟨g, j, none⟩ = false) ∧
    BootG w ((w12.setCell ⟨g, i * 3 + 1, none⟩ (.slice A12 (f.S ++ f.T.take nn).length c12)).setCell ⟨g, i * 3 + 2, none⟩ (.slice none 0 0)) F (fun k => F' k ∨ (wd.heap.size ≤ k ∧ k < w12.heap.size)) x (fs.set i ⟨f.nm, f.S ++ f.T.take nn, [], A12, c12, none, 0⟩) (some ⟨g, 0, none⟩) c room fuse down l ks (i + 1) kk' := by
  have R1 := h.R.keep hd
  have T1 := h.T.trans (Turn.of_below (F := F) hd) fun k hk => .inl hk
  have fok := R1.ok f (List.mem_of_getElem? hi)
  have R3 := put_new (i := i) (f := f) (f' := ⟨f.nm, f.S ++ f.T.take nn, f.T, A12, c12, f.tA, f.tc⟩) R1 hb hi (j := 1) (by omega) rfl (fun R => ⟨kb_own (R1.keep hb) R1.lt o, (fok.t.turn (P := fun _ => False) (Turn.of_below hb) fun _ _ h => h).mono fun k hk => .inl hk, fok.nm⟩)
  have T3 := put_turn T1 hb hFg (i * 3 + 1) (.slice A12 (f.S ++ f.T.take nn).length c12)
  have R4 := tail_nil R3 hi
  have pc3 := R3.hd.cell
  rw [List.length_set, hll] at pc3
  obtain ⟨g1, hA, _, d1, _, ez, _⟩ := (R1.keep hb).at_ hi
  cases hA
  obtain ⟨g2, hA, _, _, h2, fz, _⟩ := R3.at_ (i := i) (set_get hi)
  cases hA
  refine ⟨⟨pc3, h2, d1, ez⟩, fz, ?_⟩
  exact h.step (f' := ⟨f.nm, f.S ++ f.T.take nn, [], A12, c12, none, 0⟩) hi hl (by rw [← hn]; simp [KF.d]) hk R4 (T3.trans (turn_set _ g _ _) fun k e => .inl (by rw [e]; exact hFg)) fun k hk => by
    rcases hk with hk | hk
    · exact h.nF k hk
    · exact .inr (Nat.le_trans T1.size hk.1)
abbrev S12k (h : Nat) (cs : Array Value) (g o : Nat) (v : Value) (wx : World) : Prop := (∀ i, wx.cell? ⟨h, i, none⟩ = cs[i]?) ∧ wx.cell? ⟨g, o, none⟩ = some v
set_option maxHeartbeats 32000000 in
theorem boot12_any {F : Nat → Prop} {x : Nat} {d : DkT} (B : Option Addr) (m cB : Nat) (ks : List Int) (w : World) (h : RkAt w F x d) (hk : KeepsAt w B m ks) (hB : ∀ ad, B = some ad → 0 < m → ¬ F ad.block) :
    Calls Try.prog 59 #[.pointer (some ⟨x, 0, none⟩), .slice B m cB] w (BootP w F x (bootD d ks)) := by
  obtain ⟨⟨fs, A, c, h1, h2⟩, ok⟩ := h
  have h16 := rk_len ok h2
  have hx := h1.Fx
  have hll : d.l.length = fs.length := by rw [← h2, List.length_map]
  have Htot := Lib.hid (fun t (ht : t ∈ d.l) => show t.2.1.length ≤ 1073741824 by have h1 := ok.tot; have h3 := ok.room1; have := totD_mem ht; omega)
  have FIN := Lib.hid (fun (W : World) (F' : Nat → Prop) (fs' : List KF) (R : RkG W F' x fs' A c d.room (-1) false) (e : fs'.map KF.d = bootL d.l ks) (T : Turn F w W) (nF : ∀ k, F' k → F k ∨ w.heap.size ≤ k) => show BootP w F x (bootD d ks) (.returned (.tuple #[])) W from ⟨rfl, F', ⟨⟨fs', A, c, R, e⟩, bootD_ok ok ks⟩, T, nF⟩)
  have HK := Lib.hid hk
  have hmk : m = ks.length := hk.1
  have hmm : m ≤ 9223372036854775807 := by have := hk.2.1; unfold maxLen at this; omega
  have G0 : BootG w w F F x fs A c d.room d.fuse d.down d.l ks 0 0 := ⟨h1, by simp [bootGo, h2], by simp [bootGo], Turn.refl _ _, fun k hk => .inl hk⟩
  generalize d.l = l at *
  generalize d.room = room at *
  generalize d.fuse = fuse at *
  generalize d.down = down at *
  clear ok hk
  obtain ⟨i0', hi', hz0, hz1, hz2⟩ := u8infoK
  go_enter Try.func59, Try.ntmps59
  go_wp2_with fail
  go_loopw [4, 5] (fun s4 s5 wr => ∃ (i kk : Nat) (fs' : List KF) (F' : Nat → Prop), i ≤ l.length ∧ s5 = .int .i64 i ∧ s4 = .int .i64 kk ∧ kk ≤ i ∧ fs'.length = l.length ∧ BootG w wr F F' x fs' A c room fuse down l ks i kk) (fun _ s5 _ => l.length - (intOf s5).toNat)
  case atStart => exact ⟨0, 0, fs, F, by omega, rfl, rfl, by omega, hll.symm, G0⟩
  case round =>
    obtain ⟨i, kk, fs', F', hi, rfl, rfl, hkk, hl', G⟩ := hrel
    have pc := G.R.hd.cell
    have pf := G.R.hd.frozen
    rw [hl'] at pc
    by_cases hlt : i < l.length
    · obtain ⟨f, hif, hlf⟩ := G.file hlt
      have i0 : (0 : Int) ≤ (i : Int) := by omega
      have i1 : (i : Int) < (l.length : Int) := by omega
      have hsz := Htot.out _ (List.mem_of_getElem? hlf)
      have hlen2 : f.S.length + f.T.length ≤ 1073741824 := by rw [show f.d.2.1 = f.S ++ f.T from rfl, List.length_append] at hsz; exact hsz
      obtain ⟨g, hA, c0, c1, c2, fz, hob⟩ := G.R.at_ hif
      rw [hl'] at hob
      clear hsz
      have hFg := h1.Fr g (by rw [← hll]; exact hob)
      subst hA
      have Hst := Lib.hid (boot_done G hif hlf hl' hFg)
      have hmem := List.mem_of_getElem? hif
      have HKT := Lib.hid (HK.out.turn G.T hB)
      have tok := (G.R.ok f hmem).t.le
      have tok2 := (G.R.ok f hmem).t.cm
      generalize hTl : f.T.length = tl at c2 Hst hlen2 tok
      have HTL := Lib.hid hTl
      have Hmk := Lib.hid hmk
      clear hTl hmk
      by_cases hT : tl = 0
      · have HT := Lib.hid hT
        have p0 : ¬ (0 : Int) < (tl : Int) := by omega
        have HP := Hst.out tl kk (by rw [HT.out]; rfl) (by rw [if_pos HT.out]) (Nat.le_refl _)
        clear hT
        have hn2 : tl ≤ tl := Nat.le_refl _
        go_upto_region 9 with fail
        (refine wp_region_held_drew (S := (S12k x (hdK (some ⟨g, 0, none⟩) l.length c room fuse down) g (i * 3 + 2) (.slice f.tA tl f.tc))) (by kernel_rfl) ?_ (fun hHeld => ?_); (· exact ⟨pc, c2⟩))
        have Hd := (Below.refl wr.heap.size wr).drew
        have R1 := G.R.keep Hd
        have HSTEP := Lib.hid (HP wr.drew Hd)
        clear Hd G c0 c1 c2 fz HP Hst pc pf
        revert hHeld R1 HSTEP
        generalize World.drew _ = wd
        intro hHeld R1 HSTEP
        obtain ⟨g', hA, c0, c1, c2, fz, _⟩ := R1.at_ hif
        cases hA
        rw [HTL.out] at c2
        have fok := R1.ok f hmem
        have ka := below_one (w := wd) (.cells #[] 5)
        have hmade : OwnB (wd.alloc (.cells #[] 5)) wd.heap.size 5 (.slice (some ⟨wd.heap.size, 0, none⟩) 0 0) [] := OwnB.made (Nat.le_refl _)
        have srcT := Src.of_bytes (fok.s.b.keep ka)
        have h256 := Lib.hid (show (∀ c ∈ f.S, c < 256) ∧ ∀ c ∈ f.T, c < 256 from ⟨fok.s.b.lt, fok.t.b.lt⟩)
        have HB := Lib.hid (fok.t.b.cutTo (k := tl) (by rw [HTL.out]; exact hn2))
        have RX := Lib.hid (fun W (hb : Below wd.heap.size wd W) => show ∀ j, W.cell? ⟨x, j, none⟩ = (hdK (some ⟨g, 0, none⟩) l.length c room fuse down)[j]? from by have h9 := (R1.keep hb).hd.cell; rw [hl'] at h9; exact h9)
        have HJ := Lib.hid (fun W v (ho : W.ownsRow wd.heap.size 5 1 v (f.S.length + tl) (u8s f.S ++ u8s (f.T.take tl))) => show OwnB W wd.heap.size 5 v (f.S ++ f.T.take tl) from OwnB.join (l := f.S) (by rw [List.length_take, HTL.out, Nat.min_eq_left hn2]; exact ho) h256.out.1 (fun c hc => h256.out.2 c (List.mem_of_mem_take hc)))
        generalize hL : f.S ++ f.T.take tl = L at HJ HSTEP
        have q0 : (0 : Int) ≤ (tl : Int) := by omega
        have q1 : (tl : Int) ≤ (f.tc : Int) := by omega
        clear R1 fok hL
        (refine take_op (i := 0) (v := ?_) rfl (by kernel_rfl) (by kernel_rfl) (by kernel_rfl) (fun _ _ _ h => h) (by rfl) ?_ hHeld ?_; rotate_left; (· (intro wS hSw; (try dsimp only at hSw); go_simp; first | done | with_reducible rfl)); simp only [Act.put, List.setIfInBounds_toArray, List.set_cons_zero, List.set_cons_succ]); (refine take_op (i := 1) (v := ?_) rfl (by kernel_rfl) (by kernel_rfl) (by kernel_rfl) (fun _ _ _ h => h) (by rfl) ?_ hHeld ?_; rotate_left; (· (intro wS hSw; (try dsimp only at hSw); go_simp; first | done | with_reducible rfl)); simp only [Act.put, List.setIfInBounds_toArray, List.set_cons_zero, List.set_cons_succ]); (refine take_op (i := 2) (v := ?_) rfl (by kernel_rfl) (by kernel_rfl) (by kernel_rfl) (fun _ _ _ h => h) (by rfl) ?_ hHeld ?_; rotate_left; (· (intro wS hSw; (try dsimp only at hSw); go_simp; first | done | with_reducible rfl)); simp only [Act.put, List.setIfInBounds_toArray, List.set_cons_zero, List.set_cons_succ]); (refine take_op (i := 3) (v := ?_) rfl (by kernel_rfl) (by kernel_rfl) (by kernel_rfl) (fun _ _ _ h => h) (by rfl) ?_ hHeld ?_; rotate_left; (· (intro wS hSw; (try dsimp only at hSw); go_simp; first | done | with_reducible rfl)); simp only [Act.put, List.setIfInBounds_toArray, List.set_cons_zero, List.set_cons_succ]); (refine take_op (i := 4) (v := ?_) rfl (by kernel_rfl) (by kernel_rfl) (by kernel_rfl) (fun _ _ _ h => h) (by rfl) ?_ hHeld ?_; rotate_left; (· (intro wS hSw; (try dsimp only at hSw); go_simp; first | done | with_reducible rfl)); simp only [Act.put, List.setIfInBounds_toArray, List.set_cons_zero, List.set_cons_succ]); (refine take_op (i := 6) (v := ?_) rfl (by kernel_rfl) (by kernel_rfl) (by kernel_rfl) (fun _ _ _ h => h) (by rfl) ?_ hHeld ?_; rotate_left; (· (intro wS hSw; (try dsimp only at hSw); go_simp; first | done | with_reducible rfl)); simp only [Act.put, List.setIfInBounds_toArray, List.set_cons_zero, List.set_cons_succ]); (refine take_op (i := 7) (v := ?_) rfl (by kernel_rfl) (by kernel_rfl) (by kernel_rfl) (fun _ _ _ h => h) (by rfl) ?_ hHeld ?_; rotate_left; (· (intro wS hSw; (try dsimp only at hSw); go_simp; first | done | with_reducible rfl)); simp only [Act.put, List.setIfInBounds_toArray, List.set_cons_zero, List.set_cons_succ]); (refine take_op (i := 8) (v := ?_) rfl (by kernel_rfl) (by kernel_rfl) (by kernel_rfl) (fun _ _ _ h => h) (by rfl) ?_ hHeld ?_; rotate_left; (· (intro wS hSw; (try dsimp only at hSw); go_simp; first | done | with_reducible rfl)); simp only [Act.put, List.setIfInBounds_toArray, List.set_cons_zero, List.set_cons_succ]); (refine take_op (i := 9) (v := ?_) rfl (by kernel_rfl) (by kernel_rfl) (by kernel_rfl) (fun _ _ _ h => h) (by rfl) ?_ hHeld ?_; rotate_left; (· (intro wS hSw; (try dsimp only at hSw); go_simp; first | done | with_reducible rfl)); simp only [Act.put, List.setIfInBounds_toArray, List.set_cons_zero, List.set_cons_succ]); (refine take_op (i := 10) (v := ?_) rfl (by kernel_rfl) (by kernel_rfl) (by kernel_rfl) (fun _ _ _ h => h) (by rfl) ?_ hHeld ?_; rotate_left; (· (intro wS hSw; (try dsimp only at hSw); go_simp; first | done | with_reducible rfl)); simp only [Act.put, List.setIfInBounds_toArray, List.set_cons_zero, List.set_cons_succ]); (refine take_op (i := 11) (v := ?_) rfl (by kernel_rfl) (by kernel_rfl) (by kernel_rfl) (fun _ _ _ h => h) (by rfl) ?_ hHeld ?_; rotate_left; (· (intro wS hSw; (try dsimp only at hSw); go_simp; first | done | with_reducible rfl)); simp only [Act.put, List.setIfInBounds_toArray, List.set_cons_zero, List.set_cons_succ]); (refine take_op (i := 12) (v := ?_) rfl (by kernel_rfl) (by kernel_rfl) (by kernel_rfl) (fun _ _ _ h => h) (by rfl) ?_ hHeld ?_; rotate_left; (· (intro wS hSw; (try dsimp only at hSw); go_simp; first | done | with_reducible rfl)); simp only [Act.put, List.setIfInBounds_toArray, List.set_cons_zero, List.set_cons_succ]); (refine take_op (i := 15) (v := ?_) rfl (by kernel_rfl) (by kernel_rfl) (by kernel_rfl) (fun _ _ _ h => h) (by rfl) ?_ hHeld ?_; rotate_left; (· (intro wS hSw; (try dsimp only at hSw); go_simp; first | done | with_reducible rfl)); simp only [Act.put, List.setIfInBounds_toArray, List.set_cons_zero, List.set_cons_succ]); (refine take_op (i := 16) (v := ?_) rfl (by kernel_rfl) (by kernel_rfl) (by kernel_rfl) (fun _ _ _ h => h) (by rfl) ?_ hHeld ?_; rotate_left; (· (intro wS hSw; (try dsimp only at hSw); go_simp; first | done | with_reducible rfl)); simp only [Act.put, List.setIfInBounds_toArray, List.set_cons_zero, List.set_cons_succ]); (refine take_op (i := 17) (v := ?_) rfl (by kernel_rfl) (by kernel_rfl) (by kernel_rfl) (fun _ _ _ h => h) (by rfl) ?_ hHeld ?_; rotate_left; (· (intro wS hSw; (try dsimp only at hSw); go_simp; first | done | with_reducible rfl)); simp only [Act.put, List.setIfInBounds_toArray, List.set_cons_zero, List.set_cons_succ]); (refine take_op (i := 18) (v := ?_) rfl (by kernel_rfl) (by kernel_rfl) (by kernel_rfl) (fun _ _ _ h => h) (by rfl) ?_ hHeld ?_; rotate_left; (· (intro wS hSw; (try dsimp only at hSw); go_simp; first | done | with_reducible rfl)); simp only [Act.put, List.setIfInBounds_toArray, List.set_cons_zero, List.set_cons_succ]); (refine take_op (i := 19) (v := ?_) rfl (by kernel_rfl) (by kernel_rfl) (by kernel_rfl) (fun _ _ _ h => h) (by rfl) ?_ hHeld ?_; rotate_left; (· (intro wS hSw; (try dsimp only at hSw); go_simp; first | done | with_reducible rfl)); simp only [Act.put, List.setIfInBounds_toArray, List.set_cons_zero, List.set_cons_succ]); (refine take_op (i := 20) (v := ?_) rfl (by kernel_rfl) (by kernel_rfl) (by kernel_rfl) (fun _ _ _ h => h) (by rfl) ?_ hHeld ?_; rotate_left; (· (intro wS hSw; (try dsimp only at hSw); go_simp; first | done | with_reducible rfl)); simp only [Act.put, List.setIfInBounds_toArray, List.set_cons_zero, List.set_cons_succ]); (refine take_op (i := 21) (v := ?_) rfl (by kernel_rfl) (by kernel_rfl) (by kernel_rfl) (fun _ _ _ h => h) (by rfl) ?_ hHeld ?_; rotate_left; (· (intro wS hSw; (try dsimp only at hSw); go_simp; first | done | with_reducible rfl)); simp only [Act.put, List.setIfInBounds_toArray, List.set_cons_zero, List.set_cons_succ]); (refine take_op (i := 22) (v := ?_) rfl (by kernel_rfl) (by kernel_rfl) (by kernel_rfl) (fun _ _ _ h => h) (by rfl) ?_ hHeld ?_; rotate_left; (· (intro wS hSw; (try dsimp only at hSw); go_simp; first | done | with_reducible rfl)); simp only [Act.put, List.setIfInBounds_toArray, List.set_cons_zero, List.set_cons_succ]); (refine take_op (i := 23) (v := ?_) rfl (by kernel_rfl) (by kernel_rfl) (by kernel_rfl) (fun _ _ _ h => h) (by rfl) ?_ hHeld ?_; rotate_left; (· (intro wS hSw; (try dsimp only at hSw); go_simp; first | done | with_reducible rfl)); simp only [Act.put, List.setIfInBounds_toArray, List.set_cons_zero, List.set_cons_succ]); (refine take_op (i := 24) (v := ?_) rfl (by kernel_rfl) (by kernel_rfl) (by kernel_rfl) (fun _ _ _ h => h) (by rfl) ?_ hHeld ?_; rotate_left; (· (intro wS hSw; (try dsimp only at hSw); go_simp; first | done | with_reducible rfl)); simp only [Act.put, List.setIfInBounds_toArray, List.set_cons_zero, List.set_cons_succ])
        refine two_op (i := 5) (j := 13) rfl rfl (by kernel_rfl) (by rfl) (by rfl) ?_ ?_
        · (intro K hK; go_simp; refine hK.out _ _ ⟨RX.out _ ka, cell_keep ka c2⟩ (fun hHeld2 => ?_); clear hK K hHeld; have hHeld := hHeld2; clear hHeld2; (try simp only [Act.put, List.setIfInBounds_toArray, List.set_cons_zero, List.set_cons_succ]))
          have c1k := cell_keep ka c1
          (refine call_op (i := 13) rfl (by kernel_rfl) (by rfl) (fun K hK => ?_); go_simp; skip; refine hK.out _ _ ⟨RX.out _ ka, cell_keep ka c2⟩ (fun hHeld2 => ?_); clear hK K hHeld; have hHeld := hHeld2; clear hHeld2; (try simp only [Act.put, List.setIfInBounds_toArray, List.set_cons_zero, List.set_cons_succ]))
          (refine call_op (i := 14) rfl (by kernel_rfl) (by rfl) (fun K hK => ?_); (refine wp_app _ (.tmp 57) (.tmp 65) 60 rfl wd.heap.size 5 i0' _ 1 1 Try.underlying60 hi' hz0 hz1 hz2 rfl (by omega) _ 0 [] rfl hmade.1 f.sA f.S.length f.sc _ rfl srcT (by unfold maxLen; omega) (by omega) (by simp) ?_; intro v11 w11 hown11 hgrow11 hat11 hold11; have o11 : OwnB w11 wd.heap.size 5 v11 f.S := OwnB.join (l := []) hown11 (by simp) h256.out.1; have hb11 : Below wd.heap.size wd w11 := below_app ka hmade.1 hgrow11 (Nat.le_refl _) (by simp)); refine hK.out _ _ ⟨RX.out _ hb11, cell_keep hb11 c2⟩ (fun hHeld2 => ?_); clear hK K hHeld; have hHeld := hHeld2; clear hHeld2; (try simp only [Act.put, List.setIfInBounds_toArray, List.set_cons_zero, List.set_cons_succ]))
          have hz11 := hb11.size
          have srcP := Src.of_bytes (HB.out.keep hb11)
          clear hown11 hgrow11 hat11 hold11 srcT
          (refine call_op (i := 25) rfl (by kernel_rfl) (by rfl) (fun K hK => ?_); (refine wp_app _ (.tmp 66) (.tmp 76) 60 rfl wd.heap.size 5 i0' _ 1 1 Try.underlying60 hi' hz0 hz1 hz2 rfl (by omega) v11 f.S.length _ rfl o11.1 f.tA tl f.tc _ rfl srcP (by unfold maxLen; omega) (by omega) hz11 ?_; intro v12 w12 hown12 hgrow12 hat12 hold12; have o12 : OwnB w12 wd.heap.size 5 v12 L := HJ.out _ _ hown12; have hb12 : Below wd.heap.size wd w12 := below_app hb11 o11.1 hgrow12 (Nat.le_refl _) hz11); refine hK.out _ _ ⟨RX.out _ hb12, cell_keep hb12 c2⟩ (fun hHeld2 => ?_); clear hK K hHeld; have hHeld := hHeld2; clear hHeld2; (try simp only [Act.put, List.setIfInBounds_toArray, List.set_cons_zero, List.set_cons_succ]))
          obtain ⟨A12, c12, hv12, _, _⟩ := o12.form
          subst hv12
          have HDONE := Lib.hid (HSTEP.out A12 c12 w12 o12 hb12)
          obtain ⟨pc3, cc3, d1, ez⟩ := HDONE.out.1
          clear o12 o11 hown12 hgrow12 hat12 hold12 hmade srcP hb11 hz11
          (refine take_op (i := 26) (v := ?_) rfl (by kernel_rfl) (by kernel_rfl) (by kernel_rfl) (fun _ _ _ h => h) (by rfl) ?_ hHeld ?_; rotate_left; (· (intro wS hSw; (try dsimp only at hSw); go_simp; first | done | with_reducible rfl)); simp only [Act.put, List.setIfInBounds_toArray, List.set_cons_zero, List.set_cons_succ]); (refine take_op (i := 27) (v := ?_) rfl (by kernel_rfl) (by kernel_rfl) (by kernel_rfl) (fun _ _ _ h => h) (by rfl) ?_ hHeld ?_; rotate_left; (· (intro wS hSw; (try dsimp only at hSw); go_simp; first | done | with_reducible rfl)); simp only [Act.put, List.setIfInBounds_toArray, List.set_cons_zero, List.set_cons_succ])
          (refine call_op (i := 28) rfl (by kernel_rfl) (by rfl) (fun K hK => ?_); go_simp; skip; refine hK.out _ _ ⟨pc3, cc3⟩ (fun hHeld2 => ?_); clear hK K hHeld; have hHeld := hHeld2; clear hHeld2; (try simp only [Act.put, List.setIfInBounds_toArray, List.set_cons_zero, List.set_cons_succ]))
          (refine wpAnyH_done (by kernel_rfl) ?_ _)
          have fz3 := HDONE.out.2.1
          have G4 := Lib.hid HDONE.out.2.2
          clear hHeld HDONE d1 ez hb12
          go_wp2_with fail
          go_roundw
          case rel => exact ⟨i + 1, kk, _, _, by omega, by go_num, by go_num, by omega, by rw [List.length_set]; exact hl', G4.out⟩
          case measure => simp [intOf]; omega
        · (intro K hK; go_simp; refine hK.out _ _ hHeld (fun hHeld2 => ?_); clear hK K hHeld; have hHeld := hHeld2; clear hHeld2; (try simp only [Act.put, List.setIfInBounds_toArray, List.set_cons_zero, List.set_cons_succ]))
          (refine call_op (i := 5) rfl (by kernel_rfl) (by rfl) (fun K hK => ?_); go_simp; skip; refine hK.out _ _ ⟨RX.out _ ka, cell_keep ka c2⟩ (fun hHeld2 => ?_); clear hK K hHeld; have hHeld := hHeld2; clear hHeld2; (try simp only [Act.put, List.setIfInBounds_toArray, List.set_cons_zero, List.set_cons_succ]))
          (refine call_op (i := 14) rfl (by kernel_rfl) (by rfl) (fun K hK => ?_); (refine wp_app _ (.tmp 57) (.tmp 65) 60 rfl wd.heap.size 5 i0' _ 1 1 Try.underlying60 hi' hz0 hz1 hz2 rfl (by omega) _ 0 [] rfl hmade.1 f.sA f.S.length f.sc _ rfl srcT (by unfold maxLen; omega) (by omega) (by simp) ?_; intro v11 w11 hown11 hgrow11 hat11 hold11; have o11 : OwnB w11 wd.heap.size 5 v11 f.S := OwnB.join (l := []) hown11 (by simp) h256.out.1; have hb11 : Below wd.heap.size wd w11 := below_app ka hmade.1 hgrow11 (Nat.le_refl _) (by simp)); refine hK.out _ _ ⟨RX.out _ hb11, cell_keep hb11 c2⟩ (fun hHeld2 => ?_); clear hK K hHeld; have hHeld := hHeld2; clear hHeld2; (try simp only [Act.put, List.setIfInBounds_toArray, List.set_cons_zero, List.set_cons_succ]))
          have hz11 := hb11.size
          have srcP := Src.of_bytes (HB.out.keep hb11)
          clear hown11 hgrow11 hat11 hold11 srcT
          (refine call_op (i := 25) rfl (by kernel_rfl) (by rfl) (fun K hK => ?_); (refine wp_app _ (.tmp 66) (.tmp 76) 60 rfl wd.heap.size 5 i0' _ 1 1 Try.underlying60 hi' hz0 hz1 hz2 rfl (by omega) v11 f.S.length _ rfl o11.1 f.tA tl f.tc _ rfl srcP (by unfold maxLen; omega) (by omega) hz11 ?_; intro v12 w12 hown12 hgrow12 hat12 hold12; have o12 : OwnB w12 wd.heap.size 5 v12 L := HJ.out _ _ hown12; have hb12 : Below wd.heap.size wd w12 := below_app hb11 o11.1 hgrow12 (Nat.le_refl _) hz11); refine hK.out _ _ ⟨RX.out _ hb12, cell_keep hb12 c2⟩ (fun hHeld2 => ?_); clear hK K hHeld; have hHeld := hHeld2; clear hHeld2; (try simp only [Act.put, List.setIfInBounds_toArray, List.set_cons_zero, List.set_cons_succ]))
          obtain ⟨A12, c12, hv12, _, _⟩ := o12.form
          subst hv12
          have HDONE := Lib.hid (HSTEP.out A12 c12 w12 o12 hb12)
          obtain ⟨pc3, cc3, d1, ez⟩ := HDONE.out.1
          clear o12 o11 hown12 hgrow12 hat12 hold12 hmade srcP hb11 hz11
          (refine take_op (i := 26) (v := ?_) rfl (by kernel_rfl) (by kernel_rfl) (by kernel_rfl) (fun _ _ _ h => h) (by rfl) ?_ hHeld ?_; rotate_left; (· (intro wS hSw; (try dsimp only at hSw); go_simp; first | done | with_reducible rfl)); simp only [Act.put, List.setIfInBounds_toArray, List.set_cons_zero, List.set_cons_succ]); (refine take_op (i := 27) (v := ?_) rfl (by kernel_rfl) (by kernel_rfl) (by kernel_rfl) (fun _ _ _ h => h) (by rfl) ?_ hHeld ?_; rotate_left; (· (intro wS hSw; (try dsimp only at hSw); go_simp; first | done | with_reducible rfl)); simp only [Act.put, List.setIfInBounds_toArray, List.set_cons_zero, List.set_cons_succ])
          (refine call_op (i := 28) rfl (by kernel_rfl) (by rfl) (fun K hK => ?_); go_simp; skip; refine hK.out _ _ ⟨pc3, cc3⟩ (fun hHeld2 => ?_); clear hK K hHeld; have hHeld := hHeld2; clear hHeld2; (try simp only [Act.put, List.setIfInBounds_toArray, List.set_cons_zero, List.set_cons_succ]))
          (refine wpAnyH_done (by kernel_rfl) ?_ _)
          have fz3 := HDONE.out.2.1
          have G4 := Lib.hid HDONE.out.2.2
          clear hHeld HDONE d1 ez hb12
          go_wp2_with fail
          go_roundw
          case rel => exact ⟨i + 1, kk, _, _, by omega, by go_num, by go_num, by omega, by rw [List.length_set]; exact hl', G4.out⟩
          case measure => simp [intOf]; omega
      · have p0 : (0 : Int) < (tl : Int) := by omega
        have HT := Lib.hid hT
        clear hT
        by_cases hkm : kk < m
        · have p1 : (kk : Int) < (m : Int) := by omega
          have p2 : (0 : Int) ≤ (kk : Int) := by omega
          have hkl : kk < ks.length := by rw [← Hmk.out]; exact hkm
          obtain ⟨hwf, b, o, rfl, cK⟩ := HKT.out.2.2 kk ks[kk] (List.getElem?_eq_getElem hkl)
          have hdr : ks.drop kk = ks[kk] :: ks.drop (kk + 1) := List.drop_eq_getElem_cons hkl
          have HDR := Lib.hid hdr
          generalize ks[kk] = v at hwf cK HDR
          obtain ⟨v0, v1⟩ := wf_i64 hwf
          obtain ⟨nn, hnn⟩ : ∃ nn : Nat, nn = (min (max v 0) (tl : Int)).toNat := ⟨_, rfl⟩
          have hn2 : nn ≤ tl := by omega
          have hnI : max 0 (min v (tl : Int)) = (nn : Int) := by omega
          have HP := Hst.out nn (kk + 1) (by rw [HDR.out]; unfold bootN; rw [if_neg HT.out]; exact hnn) (by rw [if_neg HT.out, HDR.out]; rfl) hn2
          clear hdr hkl hwf hnn
          go_upto_region 7 with fail
          trace_state
          go_upto_region 9 with fail
          (refine wp_region_held_drew (S := (S12k x (hdK (some ⟨g, 0, none⟩) l.length c room fuse down) g (i * 3 + 2) (.slice f.tA tl f.tc))) (by kernel_rfl) ?_ (fun hHeld => ?_); (· exact ⟨pc, c2⟩))
          have Hd := (Below.refl wr.heap.size wr).drew
          have R1 := G.R.keep Hd
          have HSTEP := Lib.hid (HP wr.drew Hd)
          clear Hd G c0 c1 c2 fz HP Hst pc pf
          revert hHeld R1 HSTEP
          generalize World.drew _ = wd
          intro hHeld R1 HSTEP
          obtain ⟨g', hA, c0, c1, c2, fz, _⟩ := R1.at_ hif
          cases hA
          rw [HTL.out] at c2
          have fok := R1.ok f hmem
          have ka := below_one (w := wd) (.cells #[] 5)
          have hmade : OwnB (wd.alloc (.cells #[] 5)) wd.heap.size 5 (.slice (some ⟨wd.heap.size, 0, none⟩) 0 0) [] := OwnB.made (Nat.le_refl _)
          have srcT := Src.of_bytes (fok.s.b.keep ka)
          have h256 := Lib.hid (show (∀ c ∈ f.S, c < 256) ∧ ∀ c ∈ f.T, c < 256 from ⟨fok.s.b.lt, fok.t.b.lt⟩)
          have HB := Lib.hid (fok.t.b.cutTo (k := nn) (by rw [HTL.out]; exact hn2))
          have RX := Lib.hid (fun W (hb : Below wd.heap.size wd W) => show ∀ j, W.cell? ⟨x, j, none⟩ = (hdK (some ⟨g, 0, none⟩) l.length c room fuse down)[j]? from by have h9 := (R1.keep hb).hd.cell; rw [hl'] at h9; exact h9)
          have HJ := Lib.hid (fun W v (ho : W.ownsRow wd.heap.size 5 1 v (f.S.length + nn) (u8s f.S ++ u8s (f.T.take nn))) => show OwnB W wd.heap.size 5 v (f.S ++ f.T.take nn) from OwnB.join (l := f.S) (by rw [List.length_take, HTL.out, Nat.min_eq_left hn2]; exact ho) h256.out.1 (fun c hc => h256.out.2 c (List.mem_of_mem_take hc)))
          generalize hL : f.S ++ f.T.take nn = L at HJ HSTEP
          have q0 : (0 : Int) ≤ (nn : Int) := by omega
          have q1 : (nn : Int) ≤ (f.tc : Int) := by omega
          clear R1 fok hL
          (refine take_op (i := 0) (v := ?_) rfl (by kernel_rfl) (by kernel_rfl) (by kernel_rfl) (fun _ _ _ h => h) (by rfl) ?_ hHeld ?_; rotate_left; (· (intro wS hSw; (try dsimp only at hSw); go_simp; first | done | with_reducible rfl)); simp only [Act.put, List.setIfInBounds_toArray, List.set_cons_zero, List.set_cons_succ]); (refine take_op (i := 1) (v := ?_) rfl (by kernel_rfl) (by kernel_rfl) (by kernel_rfl) (fun _ _ _ h => h) (by rfl) ?_ hHeld ?_; rotate_left; (· (intro wS hSw; (try dsimp only at hSw); go_simp; first | done | with_reducible rfl)); simp only [Act.put, List.setIfInBounds_toArray, List.set_cons_zero, List.set_cons_succ]); (refine take_op (i := 2) (v := ?_) rfl (by kernel_rfl) (by kernel_rfl) (by kernel_rfl) (fun _ _ _ h => h) (by rfl) ?_ hHeld ?_; rotate_left; (· (intro wS hSw; (try dsimp only at hSw); go_simp; first | done | with_reducible rfl)); simp only [Act.put, List.setIfInBounds_toArray, List.set_cons_zero, List.set_cons_succ]); (refine take_op (i := 3) (v := ?_) rfl (by kernel_rfl) (by kernel_rfl) (by kernel_rfl) (fun _ _ _ h => h) (by rfl) ?_ hHeld ?_; rotate_left; (· (intro wS hSw; (try dsimp only at hSw); go_simp; first | done | with_reducible rfl)); simp only [Act.put, List.setIfInBounds_toArray, List.set_cons_zero, List.set_cons_succ]); (refine take_op (i := 4) (v := ?_) rfl (by kernel_rfl) (by kernel_rfl) (by kernel_rfl) (fun _ _ _ h => h) (by rfl) ?_ hHeld ?_; rotate_left; (· (intro wS hSw; (try dsimp only at hSw); go_simp; first | done | with_reducible rfl)); simp only [Act.put, List.setIfInBounds_toArray, List.set_cons_zero, List.set_cons_succ]); (refine take_op (i := 6) (v := ?_) rfl (by kernel_rfl) (by kernel_rfl) (by kernel_rfl) (fun _ _ _ h => h) (by rfl) ?_ hHeld ?_; rotate_left; (· (intro wS hSw; (try dsimp only at hSw); go_simp; first | done | with_reducible rfl)); simp only [Act.put, List.setIfInBounds_toArray, List.set_cons_zero, List.set_cons_succ]); (refine take_op (i := 7) (v := ?_) rfl (by kernel_rfl) (by kernel_rfl) (by kernel_rfl) (fun _ _ _ h => h) (by rfl) ?_ hHeld ?_; rotate_left; (· (intro wS hSw; (try dsimp only at hSw); go_simp; first | done | with_reducible rfl)); simp only [Act.put, List.setIfInBounds_toArray, List.set_cons_zero, List.set_cons_succ]); (refine take_op (i := 8) (v := ?_) rfl (by kernel_rfl) (by kernel_rfl) (by kernel_rfl) (fun _ _ _ h => h) (by rfl) ?_ hHeld ?_; rotate_left; (· (intro wS hSw; (try dsimp only at hSw); go_simp; first | done | with_reducible rfl)); simp only [Act.put, List.setIfInBounds_toArray, List.set_cons_zero, List.set_cons_succ]); (refine take_op (i := 9) (v := ?_) rfl (by kernel_rfl) (by kernel_rfl) (by kernel_rfl) (fun _ _ _ h => h) (by rfl) ?_ hHeld ?_; rotate_left; (· (intro wS hSw; (try dsimp only at hSw); go_simp; first | done | with_reducible rfl)); simp only [Act.put, List.setIfInBounds_toArray, List.set_cons_zero, List.set_cons_succ]); (refine take_op (i := 10) (v := ?_) rfl (by kernel_rfl) (by kernel_rfl) (by kernel_rfl) (fun _ _ _ h => h) (by rfl) ?_ hHeld ?_; rotate_left; (· (intro wS hSw; (try dsimp only at hSw); go_simp; first | done | with_reducible rfl)); simp only [Act.put, List.setIfInBounds_toArray, List.set_cons_zero, List.set_cons_succ]); (refine take_op (i := 11) (v := ?_) rfl (by kernel_rfl) (by kernel_rfl) (by kernel_rfl) (fun _ _ _ h => h) (by rfl) ?_ hHeld ?_; rotate_left; (· (intro wS hSw; (try dsimp only at hSw); go_simp; first | done | with_reducible rfl)); simp only [Act.put, List.setIfInBounds_toArray, List.set_cons_zero, List.set_cons_succ]); (refine take_op (i := 12) (v := ?_) rfl (by kernel_rfl) (by kernel_rfl) (by kernel_rfl) (fun _ _ _ h => h) (by rfl) ?_ hHeld ?_; rotate_left; (· (intro wS hSw; (try dsimp only at hSw); go_simp; first | done | with_reducible rfl)); simp only [Act.put, List.setIfInBounds_toArray, List.set_cons_zero, List.set_cons_succ]); (refine take_op (i := 15) (v := ?_) rfl (by kernel_rfl) (by kernel_rfl) (by kernel_rfl) (fun _ _ _ h => h) (by rfl) ?_ hHeld ?_; rotate_left; (· (intro wS hSw; (try dsimp only at hSw); go_simp; first | done | with_reducible rfl)); simp only [Act.put, List.setIfInBounds_toArray, List.set_cons_zero, List.set_cons_succ]); (refine take_op (i := 16) (v := ?_) rfl (by kernel_rfl) (by kernel_rfl) (by kernel_rfl) (fun _ _ _ h => h) (by rfl) ?_ hHeld ?_; rotate_left; (· (intro wS hSw; (try dsimp only at hSw); go_simp; first | done | with_reducible rfl)); simp only [Act.put, List.setIfInBounds_toArray, List.set_cons_zero, List.set_cons_succ]); (refine take_op (i := 17) (v := ?_) rfl (by kernel_rfl) (by kernel_rfl) (by kernel_rfl) (fun _ _ _ h => h) (by rfl) ?_ hHeld ?_; rotate_left; (· (intro wS hSw; (try dsimp only at hSw); go_simp; first | done | with_reducible rfl)); simp only [Act.put, List.setIfInBounds_toArray, List.set_cons_zero, List.set_cons_succ]); (refine take_op (i := 18) (v := ?_) rfl (by kernel_rfl) (by kernel_rfl) (by kernel_rfl) (fun _ _ _ h => h) (by rfl) ?_ hHeld ?_; rotate_left; (· (intro wS hSw; (try dsimp only at hSw); go_simp; first | done | with_reducible rfl)); simp only [Act.put, List.setIfInBounds_toArray, List.set_cons_zero, List.set_cons_succ]); (refine take_op (i := 19) (v := ?_) rfl (by kernel_rfl) (by kernel_rfl) (by kernel_rfl) (fun _ _ _ h => h) (by rfl) ?_ hHeld ?_; rotate_left; (· (intro wS hSw; (try dsimp only at hSw); go_simp; first | done | with_reducible rfl)); simp only [Act.put, List.setIfInBounds_toArray, List.set_cons_zero, List.set_cons_succ]); (refine take_op (i := 20) (v := ?_) rfl (by kernel_rfl) (by kernel_rfl) (by kernel_rfl) (fun _ _ _ h => h) (by rfl) ?_ hHeld ?_; rotate_left; (· (intro wS hSw; (try dsimp only at hSw); go_simp; first | done | with_reducible rfl)); simp only [Act.put, List.setIfInBounds_toArray, List.set_cons_zero, List.set_cons_succ]); (refine take_op (i := 21) (v := ?_) rfl (by kernel_rfl) (by kernel_rfl) (by kernel_rfl) (fun _ _ _ h => h) (by rfl) ?_ hHeld ?_; rotate_left; (· (intro wS hSw; (try dsimp only at hSw); go_simp; first | done | with_reducible rfl)); simp only [Act.put, List.setIfInBounds_toArray, List.set_cons_zero, List.set_cons_succ]); (refine take_op (i := 22) (v := ?_) rfl (by kernel_rfl) (by kernel_rfl) (by kernel_rfl) (fun _ _ _ h => h) (by rfl) ?_ hHeld ?_; rotate_left; (· (intro wS hSw; (try dsimp only at hSw); go_simp; first | done | with_reducible rfl)); simp only [Act.put, List.setIfInBounds_toArray, List.set_cons_zero, List.set_cons_succ]); (refine take_op (i := 23) (v := ?_) rfl (by kernel_rfl) (by kernel_rfl) (by kernel_rfl) (fun _ _ _ h => h) (by rfl) ?_ hHeld ?_; rotate_left; (· (intro wS hSw; (try dsimp only at hSw); go_simp; first | done | with_reducible rfl)); simp only [Act.put, List.setIfInBounds_toArray, List.set_cons_zero, List.set_cons_succ]); (refine take_op (i := 24) (v := ?_) rfl (by kernel_rfl) (by kernel_rfl) (by kernel_rfl) (fun _ _ _ h => h) (by rfl) ?_ hHeld ?_; rotate_left; (· (intro wS hSw; (try dsimp only at hSw); go_simp; first | done | with_reducible rfl)); simp only [Act.put, List.setIfInBounds_toArray, List.set_cons_zero, List.set_cons_succ])
          refine two_op (i := 5) (j := 13) rfl rfl (by kernel_rfl) (by rfl) (by rfl) ?_ ?_
          · (intro K hK; go_simp; refine hK.out _ _ ⟨RX.out _ ka, cell_keep ka c2⟩ (fun hHeld2 => ?_); clear hK K hHeld; have hHeld := hHeld2; clear hHeld2; (try simp only [Act.put, List.setIfInBounds_toArray, List.set_cons_zero, List.set_cons_succ]))
            have c1k := cell_keep ka c1
            (refine call_op (i := 13) rfl (by kernel_rfl) (by rfl) (fun K hK => ?_); go_simp; skip; refine hK.out _ _ ⟨RX.out _ ka, cell_keep ka c2⟩ (fun hHeld2 => ?_); clear hK K hHeld; have hHeld := hHeld2; clear hHeld2; (try simp only [Act.put, List.setIfInBounds_toArray, List.set_cons_zero, List.set_cons_succ]))
            (refine call_op (i := 14) rfl (by kernel_rfl) (by rfl) (fun K hK => ?_); (refine wp_app _ (.tmp 57) (.tmp 65) 60 rfl wd.heap.size 5 i0' _ 1 1 Try.underlying60 hi' hz0 hz1 hz2 rfl (by omega) _ 0 [] rfl hmade.1 f.sA f.S.length f.sc _ rfl srcT (by unfold maxLen; omega) (by omega) (by simp) ?_; intro v11 w11 hown11 hgrow11 hat11 hold11; have o11 : OwnB w11 wd.heap.size 5 v11 f.S := OwnB.join (l := []) hown11 (by simp) h256.out.1; have hb11 : Below wd.heap.size wd w11 := below_app ka hmade.1 hgrow11 (Nat.le_refl _) (by simp)); refine hK.out _ _ ⟨RX.out _ hb11, cell_keep hb11 c2⟩ (fun hHeld2 => ?_); clear hK K hHeld; have hHeld := hHeld2; clear hHeld2; (try simp only [Act.put, List.setIfInBounds_toArray, List.set_cons_zero, List.set_cons_succ]))
            have hz11 := hb11.size
            have srcP := Src.of_bytes (HB.out.keep hb11)
            clear hown11 hgrow11 hat11 hold11 srcT
            (refine call_op (i := 25) rfl (by kernel_rfl) (by rfl) (fun K hK => ?_); (refine wp_app _ (.tmp 66) (.tmp 76) 60 rfl wd.heap.size 5 i0' _ 1 1 Try.underlying60 hi' hz0 hz1 hz2 rfl (by omega) v11 f.S.length _ rfl o11.1 f.tA nn f.tc _ rfl srcP (by unfold maxLen; omega) (by omega) hz11 ?_; intro v12 w12 hown12 hgrow12 hat12 hold12; have o12 : OwnB w12 wd.heap.size 5 v12 L := HJ.out _ _ hown12; have hb12 : Below wd.heap.size wd w12 := below_app hb11 o11.1 hgrow12 (Nat.le_refl _) hz11); refine hK.out _ _ ⟨RX.out _ hb12, cell_keep hb12 c2⟩ (fun hHeld2 => ?_); clear hK K hHeld; have hHeld := hHeld2; clear hHeld2; (try simp only [Act.put, List.setIfInBounds_toArray, List.set_cons_zero, List.set_cons_succ]))
            obtain ⟨A12, c12, hv12, _, _⟩ := o12.form
            subst hv12
            have HDONE := Lib.hid (HSTEP.out A12 c12 w12 o12 hb12)
            obtain ⟨pc3, cc3, d1, ez⟩ := HDONE.out.1
            clear o12 o11 hown12 hgrow12 hat12 hold12 hmade srcP hb11 hz11
            (refine take_op (i := 26) (v := ?_) rfl (by kernel_rfl) (by kernel_rfl) (by kernel_rfl) (fun _ _ _ h => h) (by rfl) ?_ hHeld ?_; rotate_left; (· (intro wS hSw; (try dsimp only at hSw); go_simp; first | done | with_reducible rfl)); simp only [Act.put, List.setIfInBounds_toArray, List.set_cons_zero, List.set_cons_succ]); (refine take_op (i := 27) (v := ?_) rfl (by kernel_rfl) (by kernel_rfl) (by kernel_rfl) (fun _ _ _ h => h) (by rfl) ?_ hHeld ?_; rotate_left; (· (intro wS hSw; (try dsimp only at hSw); go_simp; first | done | with_reducible rfl)); simp only [Act.put, List.setIfInBounds_toArray, List.set_cons_zero, List.set_cons_succ])
            (refine call_op (i := 28) rfl (by kernel_rfl) (by rfl) (fun K hK => ?_); go_simp; skip; refine hK.out _ _ ⟨pc3, cc3⟩ (fun hHeld2 => ?_); clear hK K hHeld; have hHeld := hHeld2; clear hHeld2; (try simp only [Act.put, List.setIfInBounds_toArray, List.set_cons_zero, List.set_cons_succ]))
            (refine wpAnyH_done (by kernel_rfl) ?_ _)
            have fz3 := HDONE.out.2.1
            have G4 := Lib.hid HDONE.out.2.2
            clear hHeld HDONE d1 ez hb12
            go_wp2_with fail
            go_roundw
            case rel => exact ⟨i + 1, kk + 1, _, _, by omega, by go_num, by go_num, by omega, by rw [List.length_set]; exact hl', G4.out⟩
            case measure => simp [intOf]; omega
          · (intro K hK; go_simp; refine hK.out _ _ hHeld (fun hHeld2 => ?_); clear hK K hHeld; have hHeld := hHeld2; clear hHeld2; (try simp only [Act.put, List.setIfInBounds_toArray, List.set_cons_zero, List.set_cons_succ]))
            (refine call_op (i := 5) rfl (by kernel_rfl) (by rfl) (fun K hK => ?_); go_simp; skip; refine hK.out _ _ ⟨RX.out _ ka, cell_keep ka c2⟩ (fun hHeld2 => ?_); clear hK K hHeld; have hHeld := hHeld2; clear hHeld2; (try simp only [Act.put, List.setIfInBounds_toArray, List.set_cons_zero, List.set_cons_succ]))
            (refine call_op (i := 14) rfl (by kernel_rfl) (by rfl) (fun K hK => ?_); (refine wp_app _ (.tmp 57) (.tmp 65) 60 rfl wd.heap.size 5 i0' _ 1 1 Try.underlying60 hi' hz0 hz1 hz2 rfl (by omega) _ 0 [] rfl hmade.1 f.sA f.S.length f.sc _ rfl srcT (by unfold maxLen; omega) (by omega) (by simp) ?_; intro v11 w11 hown11 hgrow11 hat11 hold11; have o11 : OwnB w11 wd.heap.size 5 v11 f.S := OwnB.join (l := []) hown11 (by simp) h256.out.1; have hb11 : Below wd.heap.size wd w11 := below_app ka hmade.1 hgrow11 (Nat.le_refl _) (by simp)); refine hK.out _ _ ⟨RX.out _ hb11, cell_keep hb11 c2⟩ (fun hHeld2 => ?_); clear hK K hHeld; have hHeld := hHeld2; clear hHeld2; (try simp only [Act.put, List.setIfInBounds_toArray, List.set_cons_zero, List.set_cons_succ]))
            have hz11 := hb11.size
            have srcP := Src.of_bytes (HB.out.keep hb11)
            clear hown11 hgrow11 hat11 hold11 srcT
            (refine call_op (i := 25) rfl (by kernel_rfl) (by rfl) (fun K hK => ?_); (refine wp_app _ (.tmp 66) (.tmp 76) 60 rfl wd.heap.size 5 i0' _ 1 1 Try.underlying60 hi' hz0 hz1 hz2 rfl (by omega) v11 f.S.length _ rfl o11.1 f.tA nn f.tc _ rfl srcP (by unfold maxLen; omega) (by omega) hz11 ?_; intro v12 w12 hown12 hgrow12 hat12 hold12; have o12 : OwnB w12 wd.heap.size 5 v12 L := HJ.out _ _ hown12; have hb12 : Below wd.heap.size wd w12 := below_app hb11 o11.1 hgrow12 (Nat.le_refl _) hz11); refine hK.out _ _ ⟨RX.out _ hb12, cell_keep hb12 c2⟩ (fun hHeld2 => ?_); clear hK K hHeld; have hHeld := hHeld2; clear hHeld2; (try simp only [Act.put, List.setIfInBounds_toArray, List.set_cons_zero, List.set_cons_succ]))
            obtain ⟨A12, c12, hv12, _, _⟩ := o12.form
            subst hv12
            have HDONE := Lib.hid (HSTEP.out A12 c12 w12 o12 hb12)
            obtain ⟨pc3, cc3, d1, ez⟩ := HDONE.out.1
            clear o12 o11 hown12 hgrow12 hat12 hold12 hmade srcP hb11 hz11
            (refine take_op (i := 26) (v := ?_) rfl (by kernel_rfl) (by kernel_rfl) (by kernel_rfl) (fun _ _ _ h => h) (by rfl) ?_ hHeld ?_; rotate_left; (· (intro wS hSw; (try dsimp only at hSw); go_simp; first | done | with_reducible rfl)); simp only [Act.put, List.setIfInBounds_toArray, List.set_cons_zero, List.set_cons_succ]); (refine take_op (i := 27) (v := ?_) rfl (by kernel_rfl) (by kernel_rfl) (by kernel_rfl) (fun _ _ _ h => h) (by rfl) ?_ hHeld ?_; rotate_left; (· (intro wS hSw; (try dsimp only at hSw); go_simp; first | done | with_reducible rfl)); simp only [Act.put, List.setIfInBounds_toArray, List.set_cons_zero, List.set_cons_succ])
            (refine call_op (i := 28) rfl (by kernel_rfl) (by rfl) (fun K hK => ?_); go_simp; skip; refine hK.out _ _ ⟨pc3, cc3⟩ (fun hHeld2 => ?_); clear hK K hHeld; have hHeld := hHeld2; clear hHeld2; (try simp only [Act.put, List.setIfInBounds_toArray, List.set_cons_zero, List.set_cons_succ]))
            (refine wpAnyH_done (by kernel_rfl) ?_ _)
            have fz3 := HDONE.out.2.1
            have G4 := Lib.hid HDONE.out.2.2
            clear hHeld HDONE d1 ez hb12
            go_wp2_with fail
            go_roundw
            case rel => exact ⟨i + 1, kk + 1, _, _, by omega, by go_num, by go_num, by omega, by rw [List.length_set]; exact hl', G4.out⟩
            case measure => simp [intOf]; omega
        · have p1 : ¬ (kk : Int) < (m : Int) := by omega
          have hdr : ks.drop kk = [] := List.drop_eq_nil_of_le (by rw [← Hmk.out]; omega)
          have HDR := Lib.hid hdr
          have HP := Hst.out tl (kk + 1) (by rw [HDR.out]; unfold bootN; rw [if_neg HT.out]) (by rw [if_neg HT.out, HDR.out, List.drop_eq_nil_of_le (by rw [← Hmk.out]; omega)]; rfl) (Nat.le_refl _)
          clear hdr
          have hn2 : tl ≤ tl := Nat.le_refl _
          go_upto_region 9 with fail
          (refine wp_region_held_drew (S := (S12k x (hdK (some ⟨g, 0, none⟩) l.length c room fuse down) g (i * 3 + 2) (.slice f.tA tl f.tc))) (by kernel_rfl) ?_ (fun hHeld => ?_); (· exact ⟨pc, c2⟩))
          have Hd := (Below.refl wr.heap.size wr).drew
          have R1 := G.R.keep Hd
          have HSTEP := Lib.hid (HP wr.drew Hd)
          clear Hd G c0 c1 c2 fz HP Hst pc pf
          revert hHeld R1 HSTEP
          generalize World.drew _ = wd
          intro hHeld R1 HSTEP
          obtain ⟨g', hA, c0, c1, c2, fz, _⟩ := R1.at_ hif
          cases hA
          rw [HTL.out] at c2
          have fok := R1.ok f hmem
          have ka := below_one (w := wd) (.cells #[] 5)
          have hmade : OwnB (wd.alloc (.cells #[] 5)) wd.heap.size 5 (.slice (some ⟨wd.heap.size, 0, none⟩) 0 0) [] := OwnB.made (Nat.le_refl _)
          have srcT := Src.of_bytes (fok.s.b.keep ka)
          have h256 := Lib.hid (show (∀ c ∈ f.S, c < 256) ∧ ∀ c ∈ f.T, c < 256 from ⟨fok.s.b.lt, fok.t.b.lt⟩)
          have HB := Lib.hid (fok.t.b.cutTo (k := tl) (by rw [HTL.out]; exact hn2))
          have RX := Lib.hid (fun W (hb : Below wd.heap.size wd W) => show ∀ j, W.cell? ⟨x, j, none⟩ = (hdK (some ⟨g, 0, none⟩) l.length c room fuse down)[j]? from by have h9 := (R1.keep hb).hd.cell; rw [hl'] at h9; exact h9)
          have HJ := Lib.hid (fun W v (ho : W.ownsRow wd.heap.size 5 1 v (f.S.length + tl) (u8s f.S ++ u8s (f.T.take tl))) => show OwnB W wd.heap.size 5 v (f.S ++ f.T.take tl) from OwnB.join (l := f.S) (by rw [List.length_take, HTL.out, Nat.min_eq_left hn2]; exact ho) h256.out.1 (fun c hc => h256.out.2 c (List.mem_of_mem_take hc)))
          generalize hL : f.S ++ f.T.take tl = L at HJ HSTEP
          have q0 : (0 : Int) ≤ (tl : Int) := by omega
          have q1 : (tl : Int) ≤ (f.tc : Int) := by omega
          clear R1 fok hL
          (refine take_op (i := 0) (v := ?_) rfl (by kernel_rfl) (by kernel_rfl) (by kernel_rfl) (fun _ _ _ h => h) (by rfl) ?_ hHeld ?_; rotate_left; (· (intro wS hSw; (try dsimp only at hSw); go_simp; first | done | with_reducible rfl)); simp only [Act.put, List.setIfInBounds_toArray, List.set_cons_zero, List.set_cons_succ]); (refine take_op (i := 1) (v := ?_) rfl (by kernel_rfl) (by kernel_rfl) (by kernel_rfl) (fun _ _ _ h => h) (by rfl) ?_ hHeld ?_; rotate_left; (· (intro wS hSw; (try dsimp only at hSw); go_simp; first | done | with_reducible rfl)); simp only [Act.put, List.setIfInBounds_toArray, List.set_cons_zero, List.set_cons_succ]); (refine take_op (i := 2) (v := ?_) rfl (by kernel_rfl) (by kernel_rfl) (by kernel_rfl) (fun _ _ _ h => h) (by rfl) ?_ hHeld ?_; rotate_left; (· (intro wS hSw; (try dsimp only at hSw); go_simp; first | done | with_reducible rfl)); simp only [Act.put, List.setIfInBounds_toArray, List.set_cons_zero, List.set_cons_succ]); (refine take_op (i := 3) (v := ?_) rfl (by kernel_rfl) (by kernel_rfl) (by kernel_rfl) (fun _ _ _ h => h) (by rfl) ?_ hHeld ?_; rotate_left; (· (intro wS hSw; (try dsimp only at hSw); go_simp; first | done | with_reducible rfl)); simp only [Act.put, List.setIfInBounds_toArray, List.set_cons_zero, List.set_cons_succ]); (refine take_op (i := 4) (v := ?_) rfl (by kernel_rfl) (by kernel_rfl) (by kernel_rfl) (fun _ _ _ h => h) (by rfl) ?_ hHeld ?_; rotate_left; (· (intro wS hSw; (try dsimp only at hSw); go_simp; first | done | with_reducible rfl)); simp only [Act.put, List.setIfInBounds_toArray, List.set_cons_zero, List.set_cons_succ]); (refine take_op (i := 6) (v := ?_) rfl (by kernel_rfl) (by kernel_rfl) (by kernel_rfl) (fun _ _ _ h => h) (by rfl) ?_ hHeld ?_; rotate_left; (· (intro wS hSw; (try dsimp only at hSw); go_simp; first | done | with_reducible rfl)); simp only [Act.put, List.setIfInBounds_toArray, List.set_cons_zero, List.set_cons_succ]); (refine take_op (i := 7) (v := ?_) rfl (by kernel_rfl) (by kernel_rfl) (by kernel_rfl) (fun _ _ _ h => h) (by rfl) ?_ hHeld ?_; rotate_left; (· (intro wS hSw; (try dsimp only at hSw); go_simp; first | done | with_reducible rfl)); simp only [Act.put, List.setIfInBounds_toArray, List.set_cons_zero, List.set_cons_succ]); (refine take_op (i := 8) (v := ?_) rfl (by kernel_rfl) (by kernel_rfl) (by kernel_rfl) (fun _ _ _ h => h) (by rfl) ?_ hHeld ?_; rotate_left; (· (intro wS hSw; (try dsimp only at hSw); go_simp; first | done | with_reducible rfl)); simp only [Act.put, List.setIfInBounds_toArray, List.set_cons_zero, List.set_cons_succ]); (refine take_op (i := 9) (v := ?_) rfl (by kernel_rfl) (by kernel_rfl) (by kernel_rfl) (fun _ _ _ h => h) (by rfl) ?_ hHeld ?_; rotate_left; (· (intro wS hSw; (try dsimp only at hSw); go_simp; first | done | with_reducible rfl)); simp only [Act.put, List.setIfInBounds_toArray, List.set_cons_zero, List.set_cons_succ]); (refine take_op (i := 10) (v := ?_) rfl (by kernel_rfl) (by kernel_rfl) (by kernel_rfl) (fun _ _ _ h => h) (by rfl) ?_ hHeld ?_; rotate_left; (· (intro wS hSw; (try dsimp only at hSw); go_simp; first | done | with_reducible rfl)); simp only [Act.put, List.setIfInBounds_toArray, List.set_cons_zero, List.set_cons_succ]); (refine take_op (i := 11) (v := ?_) rfl (by kernel_rfl) (by kernel_rfl) (by kernel_rfl) (fun _ _ _ h => h) (by rfl) ?_ hHeld ?_; rotate_left; (· (intro wS hSw; (try dsimp only at hSw); go_simp; first | done | with_reducible rfl)); simp only [Act.put, List.setIfInBounds_toArray, List.set_cons_zero, List.set_cons_succ]); (refine take_op (i := 12) (v := ?_) rfl (by kernel_rfl) (by kernel_rfl) (by kernel_rfl) (fun _ _ _ h => h) (by rfl) ?_ hHeld ?_; rotate_left; (· (intro wS hSw; (try dsimp only at hSw); go_simp; first | done | with_reducible rfl)); simp only [Act.put, List.setIfInBounds_toArray, List.set_cons_zero, List.set_cons_succ]); (refine take_op (i := 15) (v := ?_) rfl (by kernel_rfl) (by kernel_rfl) (by kernel_rfl) (fun _ _ _ h => h) (by rfl) ?_ hHeld ?_; rotate_left; (· (intro wS hSw; (try dsimp only at hSw); go_simp; first | done | with_reducible rfl)); simp only [Act.put, List.setIfInBounds_toArray, List.set_cons_zero, List.set_cons_succ]); (refine take_op (i := 16) (v := ?_) rfl (by kernel_rfl) (by kernel_rfl) (by kernel_rfl) (fun _ _ _ h => h) (by rfl) ?_ hHeld ?_; rotate_left; (· (intro wS hSw; (try dsimp only at hSw); go_simp; first | done | with_reducible rfl)); simp only [Act.put, List.setIfInBounds_toArray, List.set_cons_zero, List.set_cons_succ]); (refine take_op (i := 17) (v := ?_) rfl (by kernel_rfl) (by kernel_rfl) (by kernel_rfl) (fun _ _ _ h => h) (by rfl) ?_ hHeld ?_; rotate_left; (· (intro wS hSw; (try dsimp only at hSw); go_simp; first | done | with_reducible rfl)); simp only [Act.put, List.setIfInBounds_toArray, List.set_cons_zero, List.set_cons_succ]); (refine take_op (i := 18) (v := ?_) rfl (by kernel_rfl) (by kernel_rfl) (by kernel_rfl) (fun _ _ _ h => h) (by rfl) ?_ hHeld ?_; rotate_left; (· (intro wS hSw; (try dsimp only at hSw); go_simp; first | done | with_reducible rfl)); simp only [Act.put, List.setIfInBounds_toArray, List.set_cons_zero, List.set_cons_succ]); (refine take_op (i := 19) (v := ?_) rfl (by kernel_rfl) (by kernel_rfl) (by kernel_rfl) (fun _ _ _ h => h) (by rfl) ?_ hHeld ?_; rotate_left; (· (intro wS hSw; (try dsimp only at hSw); go_simp; first | done | with_reducible rfl)); simp only [Act.put, List.setIfInBounds_toArray, List.set_cons_zero, List.set_cons_succ]); (refine take_op (i := 20) (v := ?_) rfl (by kernel_rfl) (by kernel_rfl) (by kernel_rfl) (fun _ _ _ h => h) (by rfl) ?_ hHeld ?_; rotate_left; (· (intro wS hSw; (try dsimp only at hSw); go_simp; first | done | with_reducible rfl)); simp only [Act.put, List.setIfInBounds_toArray, List.set_cons_zero, List.set_cons_succ]); (refine take_op (i := 21) (v := ?_) rfl (by kernel_rfl) (by kernel_rfl) (by kernel_rfl) (fun _ _ _ h => h) (by rfl) ?_ hHeld ?_; rotate_left; (· (intro wS hSw; (try dsimp only at hSw); go_simp; first | done | with_reducible rfl)); simp only [Act.put, List.setIfInBounds_toArray, List.set_cons_zero, List.set_cons_succ]); (refine take_op (i := 22) (v := ?_) rfl (by kernel_rfl) (by kernel_rfl) (by kernel_rfl) (fun _ _ _ h => h) (by rfl) ?_ hHeld ?_; rotate_left; (· (intro wS hSw; (try dsimp only at hSw); go_simp; first | done | with_reducible rfl)); simp only [Act.put, List.setIfInBounds_toArray, List.set_cons_zero, List.set_cons_succ]); (refine take_op (i := 23) (v := ?_) rfl (by kernel_rfl) (by kernel_rfl) (by kernel_rfl) (fun _ _ _ h => h) (by rfl) ?_ hHeld ?_; rotate_left; (· (intro wS hSw; (try dsimp only at hSw); go_simp; first | done | with_reducible rfl)); simp only [Act.put, List.setIfInBounds_toArray, List.set_cons_zero, List.set_cons_succ]); (refine take_op (i := 24) (v := ?_) rfl (by kernel_rfl) (by kernel_rfl) (by kernel_rfl) (fun _ _ _ h => h) (by rfl) ?_ hHeld ?_; rotate_left; (· (intro wS hSw; (try dsimp only at hSw); go_simp; first | done | with_reducible rfl)); simp only [Act.put, List.setIfInBounds_toArray, List.set_cons_zero, List.set_cons_succ])
          refine two_op (i := 5) (j := 13) rfl rfl (by kernel_rfl) (by rfl) (by rfl) ?_ ?_
          · (intro K hK; go_simp; refine hK.out _ _ ⟨RX.out _ ka, cell_keep ka c2⟩ (fun hHeld2 => ?_); clear hK K hHeld; have hHeld := hHeld2; clear hHeld2; (try simp only [Act.put, List.setIfInBounds_toArray, List.set_cons_zero, List.set_cons_succ]))
            have c1k := cell_keep ka c1
            (refine call_op (i := 13) rfl (by kernel_rfl) (by rfl) (fun K hK => ?_); go_simp; skip; refine hK.out _ _ ⟨RX.out _ ka, cell_keep ka c2⟩ (fun hHeld2 => ?_); clear hK K hHeld; have hHeld := hHeld2; clear hHeld2; (try simp only [Act.put, List.setIfInBounds_toArray, List.set_cons_zero, List.set_cons_succ]))
            (refine call_op (i := 14) rfl (by kernel_rfl) (by rfl) (fun K hK => ?_); (refine wp_app _ (.tmp 57) (.tmp 65) 60 rfl wd.heap.size 5 i0' _ 1 1 Try.underlying60 hi' hz0 hz1 hz2 rfl (by omega) _ 0 [] rfl hmade.1 f.sA f.S.length f.sc _ rfl srcT (by unfold maxLen; omega) (by omega) (by simp) ?_; intro v11 w11 hown11 hgrow11 hat11 hold11; have o11 : OwnB w11 wd.heap.size 5 v11 f.S := OwnB.join (l := []) hown11 (by simp) h256.out.1; have hb11 : Below wd.heap.size wd w11 := below_app ka hmade.1 hgrow11 (Nat.le_refl _) (by simp)); refine hK.out _ _ ⟨RX.out _ hb11, cell_keep hb11 c2⟩ (fun hHeld2 => ?_); clear hK K hHeld; have hHeld := hHeld2; clear hHeld2; (try simp only [Act.put, List.setIfInBounds_toArray, List.set_cons_zero, List.set_cons_succ]))
            have hz11 := hb11.size
            have srcP := Src.of_bytes (HB.out.keep hb11)
            clear hown11 hgrow11 hat11 hold11 srcT
            (refine call_op (i := 25) rfl (by kernel_rfl) (by rfl) (fun K hK => ?_); (refine wp_app _ (.tmp 66) (.tmp 76) 60 rfl wd.heap.size 5 i0' _ 1 1 Try.underlying60 hi' hz0 hz1 hz2 rfl (by omega) v11 f.S.length _ rfl o11.1 f.tA tl f.tc _ rfl srcP (by unfold maxLen; omega) (by omega) hz11 ?_; intro v12 w12 hown12 hgrow12 hat12 hold12; have o12 : OwnB w12 wd.heap.size 5 v12 L := HJ.out _ _ hown12; have hb12 : Below wd.heap.size wd w12 := below_app hb11 o11.1 hgrow12 (Nat.le_refl _) hz11); refine hK.out _ _ ⟨RX.out _ hb12, cell_keep hb12 c2⟩ (fun hHeld2 => ?_); clear hK K hHeld; have hHeld := hHeld2; clear hHeld2; (try simp only [Act.put, List.setIfInBounds_toArray, List.set_cons_zero, List.set_cons_succ]))
            obtain ⟨A12, c12, hv12, _, _⟩ := o12.form
            subst hv12
            have HDONE := Lib.hid (HSTEP.out A12 c12 w12 o12 hb12)
            obtain ⟨pc3, cc3, d1, ez⟩ := HDONE.out.1
            clear o12 o11 hown12 hgrow12 hat12 hold12 hmade srcP hb11 hz11
            (refine take_op (i := 26) (v := ?_) rfl (by kernel_rfl) (by kernel_rfl) (by kernel_rfl) (fun _ _ _ h => h) (by rfl) ?_ hHeld ?_; rotate_left; (· (intro wS hSw; (try dsimp only at hSw); go_simp; first | done | with_reducible rfl)); simp only [Act.put, List.setIfInBounds_toArray, List.set_cons_zero, List.set_cons_succ]); (refine take_op (i := 27) (v := ?_) rfl (by kernel_rfl) (by kernel_rfl) (by kernel_rfl) (fun _ _ _ h => h) (by rfl) ?_ hHeld ?_; rotate_left; (· (intro wS hSw; (try dsimp only at hSw); go_simp; first | done | with_reducible rfl)); simp only [Act.put, List.setIfInBounds_toArray, List.set_cons_zero, List.set_cons_succ])
            (refine call_op (i := 28) rfl (by kernel_rfl) (by rfl) (fun K hK => ?_); go_simp; skip; refine hK.out _ _ ⟨pc3, cc3⟩ (fun hHeld2 => ?_); clear hK K hHeld; have hHeld := hHeld2; clear hHeld2; (try simp only [Act.put, List.setIfInBounds_toArray, List.set_cons_zero, List.set_cons_succ]))
            (refine wpAnyH_done (by kernel_rfl) ?_ _)
            have fz3 := HDONE.out.2.1
            have G4 := Lib.hid HDONE.out.2.2
            clear hHeld HDONE d1 ez hb12
            go_wp2_with fail
            go_roundw
            case rel => exact ⟨i + 1, kk + 1, _, _, by omega, by go_num, by go_num, by omega, by rw [List.length_set]; exact hl', G4.out⟩
            case measure => simp [intOf]; omega
          · (intro K hK; go_simp; refine hK.out _ _ hHeld (fun hHeld2 => ?_); clear hK K hHeld; have hHeld := hHeld2; clear hHeld2; (try simp only [Act.put, List.setIfInBounds_toArray, List.set_cons_zero, List.set_cons_succ]))
            (refine call_op (i := 5) rfl (by kernel_rfl) (by rfl) (fun K hK => ?_); go_simp; skip; refine hK.out _ _ ⟨RX.out _ ka, cell_keep ka c2⟩ (fun hHeld2 => ?_); clear hK K hHeld; have hHeld := hHeld2; clear hHeld2; (try simp only [Act.put, List.setIfInBounds_toArray, List.set_cons_zero, List.set_cons_succ]))
            (refine call_op (i := 14) rfl (by kernel_rfl) (by rfl) (fun K hK => ?_); (refine wp_app _ (.tmp 57) (.tmp 65) 60 rfl wd.heap.size 5 i0' _ 1 1 Try.underlying60 hi' hz0 hz1 hz2 rfl (by omega) _ 0 [] rfl hmade.1 f.sA f.S.length f.sc _ rfl srcT (by unfold maxLen; omega) (by omega) (by simp) ?_; intro v11 w11 hown11 hgrow11 hat11 hold11; have o11 : OwnB w11 wd.heap.size 5 v11 f.S := OwnB.join (l := []) hown11 (by simp) h256.out.1; have hb11 : Below wd.heap.size wd w11 := below_app ka hmade.1 hgrow11 (Nat.le_refl _) (by simp)); refine hK.out _ _ ⟨RX.out _ hb11, cell_keep hb11 c2⟩ (fun hHeld2 => ?_); clear hK K hHeld; have hHeld := hHeld2; clear hHeld2; (try simp only [Act.put, List.setIfInBounds_toArray, List.set_cons_zero, List.set_cons_succ]))
            have hz11 := hb11.size
            have srcP := Src.of_bytes (HB.out.keep hb11)
            clear hown11 hgrow11 hat11 hold11 srcT
            (refine call_op (i := 25) rfl (by kernel_rfl) (by rfl) (fun K hK => ?_); (refine wp_app _ (.tmp 66) (.tmp 76) 60 rfl wd.heap.size 5 i0' _ 1 1 Try.underlying60 hi' hz0 hz1 hz2 rfl (by omega) v11 f.S.length _ rfl o11.1 f.tA tl f.tc _ rfl srcP (by unfold maxLen; omega) (by omega) hz11 ?_; intro v12 w12 hown12 hgrow12 hat12 hold12; have o12 : OwnB w12 wd.heap.size 5 v12 L := HJ.out _ _ hown12; have hb12 : Below wd.heap.size wd w12 := below_app hb11 o11.1 hgrow12 (Nat.le_refl _) hz11); refine hK.out _ _ ⟨RX.out _ hb12, cell_keep hb12 c2⟩ (fun hHeld2 => ?_); clear hK K hHeld; have hHeld := hHeld2; clear hHeld2; (try simp only [Act.put, List.setIfInBounds_toArray, List.set_cons_zero, List.set_cons_succ]))
            obtain ⟨A12, c12, hv12, _, _⟩ := o12.form
            subst hv12
            have HDONE := Lib.hid (HSTEP.out A12 c12 w12 o12 hb12)
            obtain ⟨pc3, cc3, d1, ez⟩ := HDONE.out.1
            clear o12 o11 hown12 hgrow12 hat12 hold12 hmade srcP hb11 hz11
            (refine take_op (i := 26) (v := ?_) rfl (by kernel_rfl) (by kernel_rfl) (by kernel_rfl) (fun _ _ _ h => h) (by rfl) ?_ hHeld ?_; rotate_left; (· (intro wS hSw; (try dsimp only at hSw); go_simp; first | done | with_reducible rfl)); simp only [Act.put, List.setIfInBounds_toArray, List.set_cons_zero, List.set_cons_succ]); (refine take_op (i := 27) (v := ?_) rfl (by kernel_rfl) (by kernel_rfl) (by kernel_rfl) (fun _ _ _ h => h) (by rfl) ?_ hHeld ?_; rotate_left; (· (intro wS hSw; (try dsimp only at hSw); go_simp; first | done | with_reducible rfl)); simp only [Act.put, List.setIfInBounds_toArray, List.set_cons_zero, List.set_cons_succ])
            (refine call_op (i := 28) rfl (by kernel_rfl) (by rfl) (fun K hK => ?_); go_simp; skip; refine hK.out _ _ ⟨pc3, cc3⟩ (fun hHeld2 => ?_); clear hK K hHeld; have hHeld := hHeld2; clear hHeld2; (try simp only [Act.put, List.setIfInBounds_toArray, List.set_cons_zero, List.set_cons_succ]))
            (refine wpAnyH_done (by kernel_rfl) ?_ _)
            have fz3 := HDONE.out.2.1
            have G4 := Lib.hid HDONE.out.2.2
            clear hHeld HDONE d1 ez hb12
            go_wp2_with fail
            go_roundw
            case rel => exact ⟨i + 1, kk + 1, _, _, by omega, by go_num, by go_num, by omega, by rw [List.length_set]; exact hl', G4.out⟩
            case measure => simp [intOf]; omega
    · obtain rfl : i = l.length := by omega
      have nk : ¬ (l.length : Int) < (l.length : Int) := by omega
      have s3 := G.R.hd.set_ 3 (.bool false)
      simp only [List.setIfInBounds_toArray, List.set_cons_zero, List.set_cons_succ] at s3
      have R3 := G.R.head (Turn.setCell G.R.hd 3 _) s3
      have s2 := R3.hd.set_ 2 (.int .i64 (-1))
      simp only [List.setIfInBounds_toArray, List.set_cons_zero, List.set_cons_succ] at s2
      have R4 := R3.head (Turn.setCell R3.hd 2 _) s2
      have Q4 := Lib.hid (FIN.out _ F' fs' R4 (by have := G.e; rw [List.take_length, List.drop_length, List.append_nil] at this; exact this) ((G.T.trans (turn_set _ x 3 _) fun k e => .inl (by rw [e]; exact hx)).trans (turn_set _ x 2 _) fun k e => .inl (by rw [e]; exact hx)) G.nF)
      clear R3 R4 s2 s3 G
      go_wp2_with fail
      go_end0
      exact Q4.out
end Go.Proofs.Ytpdfbkkhmfnnjaa
