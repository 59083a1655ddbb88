/- The document's disk: New, deed, At, Used, all, name. -/
import Derived.Test.YtpdfbkkhmfnnjaaRkMem
import Derived.WalkKit
import Derived.WalkSpells
import Derived.WalkLawsBesides
import Derived.Deep.RegionHeld3
import Derived.Deep.DrawnRows
import Derived.Deep.DeepCutAuto
import Derived.Deep.DeepFit
import Derived.Lib.Hide
import Derived.BigQuiet
import Derived.Deep.QuietTactic
import Derived.Deep.RegionHeld3
namespace Go.Proofs.Ytpdfbkkhmfnnjaa
open Go.RowKit
set_option linter.unusedVariables false
set_option linter.unusedSimpArgs false
set_option maxRecDepth 20000
attribute [local go_sem ↓] Go.wp_at_zero Go.wp_at_succ
attribute [local go_sem] World.cell?_alloc_some frozen_alloc_some
attribute [local go_sem] lt2 lt3 lt4 lt5
attribute [local simp] lt2 lt3 lt4 lt5

/-- The document's disk of the call's own. -/
def RkAt (W : World) (F : Nat → Prop) (x : Nat) (d : DkT) : Prop := (∃ fs A c, RkG W F x fs A c d.room d.fuse d.down ∧ fs.map KF.d = d.l) ∧ DkOk d
theorem RkAt.keep {W W' : World} {F : Nat → Prop} {x : Nat} {d : DkT} (h : RkAt W F x d) (hb : Below W.heap.size W W') : RkAt W' F x d := by
  obtain ⟨⟨fs, A, c, h1, h2⟩, h3⟩ := h
  exact ⟨⟨fs, A, c, h1.keep hb, h2⟩, h3⟩
theorem RkAt.turn {W W' : World} {F P : Nat → Prop} {x : Nat} {d : DkT} (h : RkAt W F x d) (t : Turn P W W') (hP : ∀ i, F i → ¬ P i) : RkAt W' F x d := by
  obtain ⟨⟨fs, A, c, h1, h2⟩, h3⟩ := h
  exact ⟨⟨fs, A, c, h1.turn t hP, h2⟩, h3⟩
theorem RkAt.lt {W : World} {F : Nat → Prop} {x : Nat} {d : DkT} (h : RkAt W F x d) : ∀ k, F k → k < W.heap.size := by
  obtain ⟨⟨fs, A, c, h1, h2⟩, h3⟩ := h
  exact h1.lt
set_option maxHeartbeats 1000000 in
theorem new12_any (room : Int) (w : World) (hr : (Lit.int .i64 room).wf = true) (hr2 : room ≤ 1073741824) : Calls Try.prog 27 #[.int .i64 room] w
    (fun e w' => e = .returned (.pointer (some ⟨w.heap.size, 0, none⟩)) ∧ RkAt w' (fun k => k = w.heap.size) w.heap.size (newD room) ∧ Below w.heap.size w w') := by
  have ok : DkOk (newD room) := ⟨by simp [newD, totD]; omega, by simp [newD]; omega, by simp [newD]; omega, by simp [newD], by simp [newD], by simp [newD], by simp [newD], by simp [newD], by simp [newD]⟩
  have Ok := Lib.hid ok
  have FIN := Lib.hid (show ∀ rm : Int, rm = max room 0 → RkAt (w.alloc (.cells #[.slice none 0 0, .int .i64 rm, .int .i64 (-1), .bool false] 98)) (fun k => k = w.heap.size) w.heap.size (newD room) from fun rm e => by
    subst e
    exact ⟨⟨[], none, 0, ⟨Blk.new _ _ _, World.ownsRow_nil _ _ _ _, (fun f hf => by cases hf), rfl, (fun k hk => by cases hk), (fun k hk => by rw [hk]; simp)⟩, rfl⟩, Ok.out⟩)
  clear ok
  by_cases h0 : 0 ≤ room
  all_goals
    go_enter Try.func27, Try.ntmps27
    go_wp2_with fail
    go_ret
    exact ⟨rfl, FIN.out _ (by omega), by ((repeat' first | with_reducible exact Below.refl _ _ | with_reducible assumption | with_reducible refine Below.alloc ?_ ?_ _ | with_reducible refine Below.setCell ?_ ?_ _ | with_reducible apply Below.drew | with_reducible apply below_drewN | with_reducible refine below_call ?_ (by with_reducible assumption) ?_) <;> (first | omega | (simp; done) | (simp; omega) | (simp at *; omega)))⟩
def deedR (fuse : Int) (down : Bool) : Bool × Int × Bool := if down = true ∨ fuse = 0 then (true, fuse, true) else (false, if 0 < fuse then fuse - 1 else fuse, down)
def DeedR (w : World) (F : Nat → Prop) (x : Nat) (fs : List KF) (A : Option Addr) (c : Nat) (room : Int) (r : Bool × Int × Bool) (e : Ending) (w' : World) : Prop := e = .returned (.bool r.1) ∧ RkG w' F x fs A c room r.2.1 r.2.2 ∧ Turn (fun k => k = x) w w'
set_option maxHeartbeats 2000000 in
theorem deed12_any (F : Nat → Prop) (x : Nat) (fs : List KF) (A : Option Addr) (c : Nat) (room fuse : Int) (down : Bool) (w : World) (h : RkG w F x fs A c room fuse down) (hf : -1 ≤ fuse ∧ fuse ≤ 9223372036854775807) :
    Calls Try.prog 86 #[.pointer (some ⟨x, 0, none⟩)] w (DeedR w F x fs A c room (deedR fuse down)) := by
  have pc := h.hd.cell
  have pf := h.hd.frozen
  have s3 := h.hd.set_ 3 (.bool true)
  have s2 := h.hd.set_ 2 (.int .i64 (fuse - 1))
  simp only [List.setIfInBounds_toArray, List.set_cons_zero, List.set_cons_succ] at s3 s2
  have F3 := Lib.hid (h.head (Turn.setCell h.hd 3 _) s3)
  have F2 := Lib.hid (fun (hd : down = false) => h.head (Turn.setCell h.hd 2 _) s2)
  have T3 := Lib.hid (Turn.setCell h.hd 3 (.bool true))
  have T2 := Lib.hid (Turn.setCell h.hd 2 (.int .i64 (fuse - 1)))
  have HH := Lib.hid h
  clear h s3 s2
  cases down
  · by_cases h0 : fuse = 0
    · subst h0
      rw [show deedR 0 false = (true, 0, true) from rfl]
      go_enter Try.func86, Try.ntmps86
      go_wp2_with fail
      go_ret
      exact ⟨rfl, F3.out, T3.out⟩
    · by_cases hp : 0 < fuse
      · rw [show deedR fuse false = (false, fuse - 1, false) by simp [deedR, h0, hp]]
        have hw : IntKind.i64.wrap (fuse - 1) = fuse - 1 := IntWalk.i64_in _ (by omega)
        go_enter Try.func86, Try.ntmps86
        go_wp2_with fail
        go_ret
        exact ⟨rfl, F2.out trivial, T2.out⟩
      · rw [show deedR fuse false = (false, fuse, false) by simp [deedR, h0, hp]]
        go_enter Try.func86, Try.ntmps86
        go_wp2_with fail
        go_ret
        exact ⟨rfl, HH.out, Turn.refl _ _⟩
  · rw [show deedR fuse true = (true, fuse, true) by simp [deedR]]
    go_enter Try.func86, Try.ntmps86
    go_wp2_with fail
    go_ret
    exact ⟨rfl, F3.out, T3.out⟩
abbrev S1k (h : Nat) (cs : Array Value) (wx : World) : Prop := ∀ i, wx.cell? ⟨h, i, none⟩ = cs[i]?
abbrev S11u (x : Nat) (cs : Array Value) (g o : Nat) (u v : Value) (wx : World) : Prop := (∀ i, wx.cell? ⟨x, i, none⟩ = cs[i]?) ∧ wx.cell? ⟨g, o + 1, none⟩ = some u ∧ wx.cell? ⟨g, o + 2, none⟩ = some v
/-- Where a file lies, if there is one. -/
def AtP (w : World) (fs : List KF) (s : NmT) (e : Ending) (w' : World) : Prop :=
  w' = w ∧ ((e = .returned (.int .i64 (-1)) ∧ findBy KF.nm s fs = none) ∨ ∃ (i : Nat) (f : KF), e = .returned (.int .i64 (i : Int)) ∧ fs[i]? = some f ∧ f.nm = s ∧ findBy KF.nm s fs = some f)
theorem find_take {α : Type} {nm : α → NmT} {s : NmT} {l : List α} {i : Nat} {f : α} (h : l[i]? = some f) (hn : ∀ u ∈ l.take i, nm u ≠ s) (hf : nm f = s) : findBy nm s l = some f := by
  have hl : i < l.length := (List.getElem?_eq_some_iff.1 h).1
  have e : l = l.take i ++ f :: l.drop (i + 1) := by
    have h1 := (List.take_append_drop i l).symm
    rw [List.drop_eq_getElem_cons hl] at h1
    rw [(List.getElem?_eq_some_iff.1 h).2] at h1
    exact h1
  rw [e]
  unfold findBy
  rw [List.find?_append, List.find?_eq_none.2 (fun u hu => by simpa using hn u hu)]
  simp [hf]
set_option maxHeartbeats 2000000 in
theorem at12_any (F : Nat → Prop) (x : Nat) (fs : List KF) (A : Option Addr) (c : Nat) (room fuse : Int) (down : Bool) (s : NmT) (w : World) (h : RkG w F x fs A c room fuse down) (h16 : fs.length ≤ 16) :
    Calls Try.prog 88 #[.pointer (some ⟨x, 0, none⟩), sK s] w (AtP w fs s) := by
  have pc := h.hd.cell
  have H := Lib.hid h
  clear h
  go_enter Try.func88, Try.ntmps88
  go_wp2_with fail
  go_loop [5] (fun s5 => ∃ i : Nat, i ≤ fs.length ∧ s5 = .int .i64 i ∧ Hid (∀ u ∈ fs.take i, u.nm ≠ s)) (fun s5 => fs.length - (intOf s5).toNat)
  case atStart => exact ⟨0, by omega, rfl, Lib.hid (by simp)⟩
  case round =>
    obtain ⟨i, hi, rfl, hn⟩ := hrel
    by_cases hlt : i < fs.length
    · obtain ⟨g, hA, c0, _, _, _, _⟩ := H.out.at_ (List.getElem?_eq_getElem hlt)
      have i0 : (0 : Int) ≤ (i : Int) := by omega
      have i1 : (i : Int) < (fs.length : Int) := by omega
      generalize hf : fs[i] = f at c0
      subst hA
      by_cases hq : f.nm = s
      · have FIN := Lib.hid (show AtP w fs s (.returned (.int .i64 (i : Int))) w from ⟨rfl, .inr ⟨i, f, rfl, by rw [← hf]; exact List.getElem?_eq_getElem hlt, hq, find_take (by rw [← hf]; exact List.getElem?_eq_getElem hlt) hn.out hq⟩⟩)
        rw [hq] at c0
        clear hf hq
        go_wp2_with fail
        go_ret
        exact FIN.out
      · have hne : ¬ s = f.nm := fun e => hq e.symm
        have hn2 := Lib.hid (show ∀ u ∈ fs.take (i + 1), u.nm ≠ s from fun u hu => by
          rw [List.take_add_one, List.getElem?_eq_getElem hlt, hf] at hu
          rcases List.mem_append.1 hu with hu | hu
          · exact hn.out u hu
          · simp at hu; subst hu; exact hq)
        generalize f.nm = fn at c0 hq hne
        have hbq : (fn == s) = false := by simpa using hq
        clear hf hq hne
        go_wp2_with fail
        go_round
        case rel => exact ⟨i + 1, by omega, by go_num, hn2⟩
        case measure => simp [intOf]; omega
    · have nk : ¬ (i : Int) < (fs.length : Int) := by omega
      have FIN := Lib.hid (show AtP w fs s (.returned (.int .i64 (-1))) w from ⟨rfl, .inl ⟨rfl, findBy_none.2 fun u hu => by have h1 := hn.out; rw [List.take_of_length_le (by omega)] at h1; exact h1 u hu⟩⟩)
      go_wp2_with fail
      go_ret
      exact FIN.out
theorem used_eq (n sl tl : Nat) (h : n + (sl + tl) ≤ 1073741824) : Value.int .i64 (IntKind.i64.wrap (IntKind.i64.wrap ((n : Int) + (sl : Int)) + (tl : Int))) = Value.int .i64 ((n + (sl + tl) : Nat) : Int) := by
  rw [IntWalk.i64_in ((n : Int) + (sl : Int)) (by omega), IntWalk.i64_in _ (by omega)]
  congr 1
  omega
set_option maxHeartbeats 2000000 in
theorem used12_any (F : Nat → Prop) (x : Nat) (fs : List KF) (A : Option Addr) (c : Nat) (room fuse : Int) (down : Bool) (w : World) (h : RkG w F x fs A c room fuse down) (hs : totD (fs.map KF.d) ≤ 1073741824) :
    Calls Try.prog 64 #[.pointer (some ⟨x, 0, none⟩)] w (Gives w (.int .i64 (totD (fs.map KF.d) : Nat))) := by
  have H := Lib.hid h
  have hml : fs.length ≤ 9223372036854775807 := by
    obtain ⟨_, cp, e, hle, hcm⟩ : ∃ B cp, (.slice A fs.length c : Value) = .slice B fs.length cp ∧ fs.length ≤ cp ∧ cp ≤ maxLen := by
      rcases h.row.2 with ⟨e, h0⟩ | ⟨g, cap, cur, e, _, _, hle, hm, _⟩
      · exact ⟨none, 0, by rw [e, h0], by omega, Nat.zero_le _⟩
      · exact ⟨_, cap, e, hle, hm⟩
    unfold maxLen at hcm; omega
  clear h
  have htk : ∀ i, totD ((fs.take i).map KF.d) ≤ 1073741824 := fun i => by
    refine Nat.le_trans ?_ hs
    unfold totD
    have h1 : fs = fs.take i ++ fs.drop i := (List.take_append_drop i fs).symm
    rw [show ((fs.map KF.d).map fun t => t.2.1.length).sum = (((fs.take i ++ fs.drop i).map KF.d).map fun t => t.2.1.length).sum by rw [← h1]]
    rw [List.map_append, List.map_append, List.sum_append]
    omega
  have Htk := Lib.hid htk
  clear htk
  have htot0 : totD (([] : List KF).map KF.d) = 0 := rfl
  go_enter Try.func64, Try.ntmps64
  go_wp2_with fail
  go_loopw [3, 4] (fun s3 s4 wr => ∃ (i n : Nat), i ≤ fs.length ∧ s4 = .int .i64 i ∧ s3 = .int .i64 n ∧ Hid (n = totD ((fs.take i).map KF.d)) ∧ Below w.heap.size w wr) (fun _ s4 _ => fs.length - (intOf s4).toNat)
  case atStart => exact ⟨0, 0, by omega, rfl, rfl, Lib.hid rfl, Below.refl _ _⟩
  case round =>
    obtain ⟨i, n, hi, rfl, rfl, hn, hb⟩ := hrel
    have R := H.out.keep hb
    have pc := R.hd.cell
    by_cases hlt : i < fs.length
    · have hfi := List.getElem?_eq_getElem hlt
      obtain ⟨g, hA, c0, c1, c2, _, _⟩ := R.at_ hfi
      have i0 : (0 : Int) ≤ (i : Int) := by omega
      have i1 : (i : Int) < (fs.length : Int) := by omega
      have hst : totD ((fs.take (i + 1)).map KF.d) = totD ((fs.take i).map KF.d) + (fs[i].S.length + fs[i].T.length) := by
        rw [List.take_add_one, hfi, List.map_append]
        simp [totD, KF.d]
      have hle := Htk.out (i + 1)
      rw [hst, ← hn.out] at hle
      generalize fs[i] = f at c0 c1 c2 hst hle
      have Hst := Lib.hid hst
      subst hA
      generalize hSl : f.S.length = sl at c1 hle Hst
      generalize hTl : f.T.length = tl at c2 hle Hst
      clear hst c0 hfi hSl hTl
      go_upto_region 5 with fail
      (refine wp_region_held_drew (S := (S11u x #[.slice (some ⟨g, 0, none⟩) fs.length c, .int .i64 room, .int .i64 fuse, .bool down] g (i * 3) (.slice f.sA sl f.sc) (.slice f.tA tl f.tc))) (by kernel_rfl) ?_ (fun hHeld => ?_); (· exact ⟨pc, c1, c2⟩))
      (refine take_op (i := 0) (v := ?_) rfl (by kernel_rfl) (by kernel_rfl) (by kernel_rfl) (fun _ _ _ h => h) (by rfl) ?_ hHeld ?_; rotate_left; (· (intro wS hSw; (try dsimp only at hSw); go_simp; first | done | with_reducible rfl)); simp only [Act.put, List.setIfInBounds_toArray, List.set_cons_zero, List.set_cons_succ]); (refine take_op (i := 1) (v := ?_) rfl (by kernel_rfl) (by kernel_rfl) (by kernel_rfl) (fun _ _ _ h => h) (by rfl) ?_ hHeld ?_; rotate_left; (· (intro wS hSw; (try dsimp only at hSw); go_simp; first | done | with_reducible rfl)); simp only [Act.put, List.setIfInBounds_toArray, List.set_cons_zero, List.set_cons_succ]); (refine take_op (i := 2) (v := ?_) rfl (by kernel_rfl) (by kernel_rfl) (by kernel_rfl) (fun _ _ _ h => h) (by rfl) ?_ hHeld ?_; rotate_left; (· (intro wS hSw; (try dsimp only at hSw); go_simp; first | done | with_reducible rfl)); simp only [Act.put, List.setIfInBounds_toArray, List.set_cons_zero, List.set_cons_succ]); (refine take_op (i := 3) (v := ?_) rfl (by kernel_rfl) (by kernel_rfl) (by kernel_rfl) (fun _ _ _ h => h) (by rfl) ?_ hHeld ?_; rotate_left; (· (intro wS hSw; (try dsimp only at hSw); go_simp; first | done | with_reducible rfl)); simp only [Act.put, List.setIfInBounds_toArray, List.set_cons_zero, List.set_cons_succ]); (refine take_op (i := 4) (v := ?_) rfl (by kernel_rfl) (by kernel_rfl) (by kernel_rfl) (fun _ _ _ h => h) (by rfl) ?_ hHeld ?_; rotate_left; (· (intro wS hSw; (try dsimp only at hSw); go_simp; first | done | with_reducible rfl)); simp only [Act.put, List.setIfInBounds_toArray, List.set_cons_zero, List.set_cons_succ]); (refine take_op (i := 5) (v := ?_) rfl (by kernel_rfl) (by kernel_rfl) (by kernel_rfl) (fun _ _ _ h => h) (by rfl) ?_ hHeld ?_; rotate_left; (· (intro wS hSw; (try dsimp only at hSw); go_simp; first | done | with_reducible rfl)); simp only [Act.put, List.setIfInBounds_toArray, List.set_cons_zero, List.set_cons_succ]); (refine take_op (i := 6) (v := ?_) rfl (by kernel_rfl) (by kernel_rfl) (by kernel_rfl) (fun _ _ _ h => h) (by rfl) ?_ hHeld ?_; rotate_left; (· (intro wS hSw; (try dsimp only at hSw); go_simp; first | done | with_reducible rfl)); simp only [Act.put, List.setIfInBounds_toArray, List.set_cons_zero, List.set_cons_succ]); (refine take_op (i := 7) (v := ?_) rfl (by kernel_rfl) (by kernel_rfl) (by kernel_rfl) (fun _ _ _ h => h) (by rfl) ?_ hHeld ?_; rotate_left; (· (intro wS hSw; (try dsimp only at hSw); go_simp; first | done | with_reducible rfl)); simp only [Act.put, List.setIfInBounds_toArray, List.set_cons_zero, List.set_cons_succ]); (refine take_op (i := 8) (v := ?_) rfl (by kernel_rfl) (by kernel_rfl) (by kernel_rfl) (fun _ _ _ h => h) (by rfl) ?_ hHeld ?_; rotate_left; (· (intro wS hSw; (try dsimp only at hSw); go_simp; first | done | with_reducible rfl)); simp only [Act.put, List.setIfInBounds_toArray, List.set_cons_zero, List.set_cons_succ]); (refine take_op (i := 9) (v := ?_) rfl (by kernel_rfl) (by kernel_rfl) (by kernel_rfl) (fun _ _ _ h => h) (by rfl) ?_ hHeld ?_; rotate_left; (· (intro wS hSw; (try dsimp only at hSw); go_simp; first | done | with_reducible rfl)); simp only [Act.put, List.setIfInBounds_toArray, List.set_cons_zero, List.set_cons_succ]); (refine take_op (i := 10) (v := ?_) rfl (by kernel_rfl) (by kernel_rfl) (by kernel_rfl) (fun _ _ _ h => h) (by rfl) ?_ hHeld ?_; rotate_left; (· (intro wS hSw; (try dsimp only at hSw); go_simp; first | done | with_reducible rfl)); simp only [Act.put, List.setIfInBounds_toArray, List.set_cons_zero, List.set_cons_succ]); (refine take_op (i := 11) (v := ?_) rfl (by kernel_rfl) (by kernel_rfl) (by kernel_rfl) (fun _ _ _ h => h) (by rfl) ?_ hHeld ?_; rotate_left; (· (intro wS hSw; (try dsimp only at hSw); go_simp; first | done | with_reducible rfl)); simp only [Act.put, List.setIfInBounds_toArray, List.set_cons_zero, List.set_cons_succ]); (refine take_op (i := 12) (v := ?_) rfl (by kernel_rfl) (by kernel_rfl) (by kernel_rfl) (fun _ _ _ h => h) (by rfl) ?_ hHeld ?_; rotate_left; (· (intro wS hSw; (try dsimp only at hSw); go_simp; first | done | with_reducible rfl)); simp only [Act.put, List.setIfInBounds_toArray, List.set_cons_zero, List.set_cons_succ]); (refine take_op (i := 13) (v := ?_) rfl (by kernel_rfl) (by kernel_rfl) (by kernel_rfl) (fun _ _ _ h => h) (by rfl) ?_ hHeld ?_; rotate_left; (· (intro wS hSw; (try dsimp only at hSw); go_simp; first | done | with_reducible rfl)); simp only [Act.put, List.setIfInBounds_toArray, List.set_cons_zero, List.set_cons_succ]); (refine take_op (i := 14) (v := ?_) rfl (by kernel_rfl) (by kernel_rfl) (by kernel_rfl) (fun _ _ _ h => h) (by rfl) ?_ hHeld ?_; rotate_left; (· (intro wS hSw; (try dsimp only at hSw); go_simp; first | done | with_reducible rfl)); simp only [Act.put, List.setIfInBounds_toArray, List.set_cons_zero, List.set_cons_succ]); (refine take_op (i := 15) (v := ?_) rfl (by kernel_rfl) (by kernel_rfl) (by kernel_rfl) (fun _ _ _ h => h) (by rfl) ?_ hHeld ?_; rotate_left; (· (intro wS hSw; (try dsimp only at hSw); go_simp; first | done | with_reducible rfl)); simp only [Act.put, List.setIfInBounds_toArray, List.set_cons_zero, List.set_cons_succ]); (refine take_op (i := 16) (v := ?_) rfl (by kernel_rfl) (by kernel_rfl) (by kernel_rfl) (fun _ _ _ h => h) (by rfl) ?_ hHeld ?_; rotate_left; (· (intro wS hSw; (try dsimp only at hSw); go_simp; first | done | with_reducible rfl)); simp only [Act.put, List.setIfInBounds_toArray, List.set_cons_zero, List.set_cons_succ]); (refine take_op (i := 17) (v := ?_) rfl (by kernel_rfl) (by kernel_rfl) (by kernel_rfl) (fun _ _ _ h => h) (by rfl) ?_ hHeld ?_; rotate_left; (· (intro wS hSw; (try dsimp only at hSw); go_simp; first | done | with_reducible rfl)); simp only [Act.put, List.setIfInBounds_toArray, List.set_cons_zero, List.set_cons_succ]); (refine take_op (i := 18) (v := ?_) rfl (by kernel_rfl) (by kernel_rfl) (by kernel_rfl) (fun _ _ _ h => h) (by rfl) ?_ hHeld ?_; rotate_left; (· (intro wS hSw; (try dsimp only at hSw); go_simp; first | done | with_reducible rfl)); simp only [Act.put, List.setIfInBounds_toArray, List.set_cons_zero, List.set_cons_succ]); (refine take_op (i := 19) (v := ?_) rfl (by kernel_rfl) (by kernel_rfl) (by kernel_rfl) (fun _ _ _ h => h) (by rfl) ?_ hHeld ?_; rotate_left; (· (intro wS hSw; (try dsimp only at hSw); go_simp; first | done | with_reducible rfl)); simp only [Act.put, List.setIfInBounds_toArray, List.set_cons_zero, List.set_cons_succ]); (refine take_op (i := 20) (v := ?_) rfl (by kernel_rfl) (by kernel_rfl) (by kernel_rfl) (fun _ _ _ h => h) (by rfl) ?_ hHeld ?_; rotate_left; (· (intro wS hSw; (try dsimp only at hSw); go_simp; first | done | with_reducible rfl)); simp only [Act.put, List.setIfInBounds_toArray, List.set_cons_zero, List.set_cons_succ]); (refine take_op (i := 21) (v := ?_) rfl (by kernel_rfl) (by kernel_rfl) (by kernel_rfl) (fun _ _ _ h => h) (by rfl) ?_ hHeld ?_; rotate_left; (· (intro wS hSw; (try dsimp only at hSw); go_simp; first | done | with_reducible rfl)); simp only [Act.put, List.setIfInBounds_toArray, List.set_cons_zero, List.set_cons_succ])
      (refine wpAnyH_done (by kernel_rfl) ?_ _)
      replace hb := hb.drew
      clear hHeld pc R c1 c2
      generalize wr.drew = wd at hb ⊢
      go_wp2_with fail
      go_roundw
      case rel => exact ⟨i + 1, n + (sl + tl), by omega, by go_num, used_eq n sl tl hle, Lib.hid (by rw [Hst.out, hn.out]), hb⟩
      case measure => simp [intOf]; omega
    · have nk : ¬ (i : Int) < (fs.length : Int) := by omega
      have hn2 := hn.out
      rw [List.take_of_length_le (by omega)] at hn2
      have FIN := Lib.hid (show Gives w (.int .i64 (totD (fs.map KF.d) : Nat)) (.returned (.int .i64 (n : Int))) wr from ⟨by rw [hn2], hb⟩)
      clear hn2 hn R
      go_wp2_with fail
      go_ret
      exact FIN.out
end Go.Proofs.Ytpdfbkkhmfnnjaa
