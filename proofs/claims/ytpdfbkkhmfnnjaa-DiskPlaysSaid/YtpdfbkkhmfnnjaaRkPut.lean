/- The document's disk: drop and put. -/
import Derived.Test.YtpdfbkkhmfnnjaaRkAll
import Derived.WalkKit
import Derived.WalkSpells
import Derived.WalkLawsBesides
import Derived.Deep.RegionHeld3
import Derived.Deep.DrawnRows
import Derived.Deep.DeepCutAuto
import Derived.Deep.DeepFit
import Derived.Lib.Hide
import Derived.BigQuiet
import Derived.Deep.QuietTactic
import Derived.Deep.RegionHeld3
namespace Go.Proofs.Ytpdfbkkhmfnnjaa
open Go.RowKit
set_option linter.unusedVariables false
set_option linter.unusedSimpArgs false
set_option maxRecDepth 20000
attribute [local go_sem ↓] Go.wp_at_zero Go.wp_at_succ
attribute [local go_sem] World.cell?_alloc_some frozen_alloc_some
attribute [local go_sem] lt2 lt3 lt4 lt5
attribute [local simp] lt2 lt3 lt4 lt5

theorem ownR_keep {w w' : World} {base : Nat} {e : TypeId} {size : Nat} {v : Value} {n : Nat} {xs : List Value} (h : w.ownsRow base e size v n xs) (hb : Below w.heap.size w w') : w'.ownsRow base e size v n xs := ownK_turn (P := fun _ => False) h (Turn.of_below hb) fun _ _ hp => hp
theorem ownR_form {w : World} {base : Nat} {e : TypeId} {size : Nat} {v : Value} {n : Nat} {xs : List Value} (h : w.ownsRow base e size v n xs) : ∃ A c, v = .slice A n c ∧ n ≤ c ∧ c ≤ maxLen := by
  rcases h.2 with ⟨rfl, hl⟩ | ⟨g, cap, cur, rfl, _, _, hle, hm, _⟩
  · exact ⟨none, 0, by rw [hl], by omega, Nat.zero_le _⟩
  · exact ⟨_, cap, rfl, hle, hm⟩
theorem KOk.weak {W : World} {F : Nat → Prop} {x : Nat} {rb : Option Nat} {f : KF} (h : KOk W F x rb f) : KOk W F x none f :=
  ⟨⟨h.s.b, h.s.le, h.s.cm, fun ad e => ⟨(h.s.o ad e).1, (h.s.o ad e).2.1, by simp⟩⟩, ⟨h.t.b, h.t.le, h.t.cm, fun ad e => ⟨(h.t.o ad e).1, (h.t.o ad e).2.1, by simp⟩⟩, h.nm⟩
theorem KOk.keep {W W' : World} {F : Nat → Prop} {x : Nat} {rb : Option Nat} {f : KF} (h : KOk W F x rb f) (hb : Below W.heap.size W W') : KOk W' F x rb f := h.turn (P := fun _ => False) (Turn.of_below hb) fun _ _ _ _ hp => hp
def SetsP (w : World) (F : Nat → Prop) (x : Nat) (fs' : List KF) (room fuse : Int) (down : Bool) (e : Ending) (w' : World) : Prop :=
  e = .returned (.tuple #[]) ∧ ∃ (F' : Nat → Prop) (A' : Option Addr) (c' : Nat), RkG w' F' x fs' A' c' room fuse down ∧ Turn (fun k => k = x) w w' ∧ (∀ k, F k → F' k) ∧ ∀ k, F' k → F k ∨ w.heap.size ≤ k
theorem sets_fin {w wr : World} {F : Nat → Prop} {x : Nat} {fs fs' : List KF} {A A' : Option Addr} {c c' : Nat} {room fuse : Int} {down : Bool} (h : RkG w F x fs A c room fuse down) (hb : Below w.heap.size w wr) (hown : wr.ownsRow w.heap.size 110 3 (.slice A' fs'.length c') fs'.length (flatK fs')) (hmem : ∀ f ∈ fs', KOk w F x none f) :
    SetsP w F x fs' room fuse down (.returned (.tuple #[])) (wr.setCell ⟨x, 0, none⟩ (.slice A' fs'.length c')) := by
  have h2 := h.keep hb
  refine ⟨rfl, _, A', c', h2.rows hown (h.lt x h.Fx) h.lt (fun f hf => (hmem f hf).keep hb), (Turn.of_below hb).trans (Turn.setCell h2.hd 0 _) fun i hi => .inl hi, fun k hk => .inl hk, fun k hk => ?_⟩
  rcases hk with hk | hk
  · exact .inl hk
  · exact .inr (hown.lt k hk).1
theorem outBy_snoc {α : Type} {nm : α → NmT} {s : NmT} {l : List α} {i : Nat} {f : α} (h : l[i]? = some f) : outBy nm s (l.take (i + 1)) = outBy nm s (l.take i) ++ if nm f = s then [] else [f] := by
  rw [List.take_add_one, h]
  unfold outBy
  rw [List.filter_append]
  congr 1
  by_cases e : nm f = s <;> simp [e]
set_option maxHeartbeats 4000000 in
theorem drop12_any (F : Nat → Prop) (x : Nat) (fs : List KF) (A : Option Addr) (c : Nat) (room fuse : Int) (down : Bool) (s : NmT) (w : World) (h : RkG w F x fs A c room fuse down) (h16 : fs.length ≤ 100) :
    Calls Try.prog 91 #[.pointer (some ⟨x, 0, none⟩), sK s] w (SetsP w F x (outBy KF.nm s fs) room fuse down) := by
  have H := Lib.hid h
  clear h
  obtain ⟨i0, hi, hz0, hzz, hz2⟩ := kfinfo
  go_enter Try.func91, Try.ntmps91
  go_wp2_with fail
  go_loopw [4, 5] (fun s4 s5 wr => ∃ (k n c' : Nat) (A' : Option Addr), k ≤ fs.length ∧ s5 = .int .i64 k ∧ s4 = .slice A' n c' ∧ n ≤ k ∧ Below w.heap.size w wr ∧ wr.ownsRow w.heap.size 110 3 (.slice A' n c') n (flatK (outBy KF.nm s (fs.take k)))) (fun _ s5 _ => fs.length - (intOf s5).toNat)
  case atStart => exact ⟨0, 0, 0, none, by omega, rfl, rfl, by omega, Below.refl _ _, World.ownsRow_nil _ _ _ _⟩
  case round =>
    obtain ⟨k, n, c', A', hk, rfl, rfl, hn, hb, hown⟩ := hrel
    have R := H.out.keep hb
    have pc := R.hd.cell
    have pf := R.hd.frozen
    have hzr := hb.size
    by_cases hlt : k < fs.length
    · have hfi := List.getElem?_eq_getElem hlt
      obtain ⟨g, hA, c0, c1, c2, _, _⟩ := R.at_ hfi
      have k0 : (0 : Int) ≤ (k : Int) := by omega
      have k1 : (k : Int) < (fs.length : Int) := by omega
      have hst := outBy_snoc (s := s) (nm := KF.nm) hfi
      generalize fs[k] = f at c0 c1 c2 hst hfi
      subst hA
      by_cases hq : f.nm = s
      · rw [if_pos hq, List.append_nil] at hst
        have Hst := Lib.hid hst
        rw [hq] at c0
        clear hst hq hfi
        go_wp2_with fail
        go_roundw
        case rel => exact ⟨k + 1, n, c', A', by omega, by go_num, rfl, by omega, hb, by rw [Hst.out]; exact hown⟩
        case measure => simp [intOf]; omega
      · rw [if_neg hq] at hst
        have Hst := Lib.hid hst
        have hbq : (f.nm == s) = false := by simpa using hq
        have k1' := below_one (w := wr) (.cells #[sK f.nm, .slice f.sA f.S.length f.sc, .slice f.tA f.T.length f.tc] 110)
        have hsrc := src_kf (w := wr) (e := 110) f
        have hownA := ownR_keep hown k1'
        clear hst hq hfi
        go_wp2_with ((at_builtin; go_loud (refine wpList_app _ rfl (.tmp 25) (.tmp 33) 96 rfl _ 110 i0 _ 3 64 Try.underlying96 hi hz0 hzz hz2 rfl (by omega) _ _ _ rfl hownA _ _ _ _ rfl hsrc ?h63 ?hby ?hbase ?_); (case h63 => (unfold maxLen; first | omega | (simp; done) | (simp; omega))); (case hby => first | omega | (simp; done) | (simp; omega)); (case hbase => first | omega | (simp; done) | (simp; omega)); intro v9 w9 hownw9 hgroww9 hatw9 holdw9))
        obtain ⟨A8, c8', rfl, _, _⟩ := ownR_form hownw9
        go_roundw
        case rel => exact ⟨k + 1, n + 1, c8', A8, by omega, by go_num, rfl, by omega, below_app (below_call hb k1' hb.size) hownA hgroww9 (by omega) (by simp; omega), by rw [Hst.out, flatK_snoc]; exact hownw9⟩
        case measure => simp [intOf]; omega
    · obtain rfl : k = fs.length := by omega
      have nk : ¬ (fs.length : Int) < (fs.length : Int) := by omega
      rw [List.take_length] at hown
      obtain rfl : n = (outBy KF.nm s fs).length := by have := hown.1; rw [flatK_length] at this; omega
      have FIN := Lib.hid (sets_fin H.out hb hown fun f hf => (H.out.ok f (mem_outBy.1 hf).1).weak)
      clear hown R
      go_wp2_with fail
      go_end0
      exact FIN.out

theorem insB_none {α : Type} {nm : α → NmT} {f : α} : ∀ {a : List α}, (∀ z ∈ a, ¬ nm f < nm z) → insBy nm f a = a ++ [f]
  | [], _ => rfl
  | y :: a, h => by
    rw [insBy, if_neg (h y (by simp)), insB_none fun z hz => h z (by simp [hz])]
    rfl
theorem insB_found {α : Type} {nm : α → NmT} {f y : α} : ∀ {a : List α}, (∃ z ∈ a, nm f < nm z) → insBy nm f (a ++ [y]) = insBy nm f a ++ [y]
  | [], h => by obtain ⟨z, hz, _⟩ := h; simp at hz
  | b :: a, h => by
    rw [List.cons_append, insBy, insBy]
    by_cases hb : nm f < nm b
    · rw [if_pos hb, if_pos hb]; rfl
    · rw [if_neg hb, if_neg hb, insB_found]
      · rfl
      · obtain ⟨z, hz, hx⟩ := h
        rcases List.mem_cons.1 hz with e | hz
        · subst e; exact absurd hx hb
        · exact ⟨z, hz, hx⟩
theorem insB_new {α : Type} {nm : α → NmT} {f y : α} (hy : nm f < nm y) : ∀ {a : List α}, (∀ z ∈ a, ¬ nm f < nm z) → insBy nm f (a ++ [y]) = a ++ [f] ++ [y]
  | [], _ => by simp [insBy, hy]
  | b :: a, h => by
    rw [List.cons_append, insBy, if_neg (h b (by simp)), insB_new hy fun z hz => h z (by simp [hz])]
    simp
def laidK (f : KF) (l : List KF) (i : Nat) : Bool := (l.take i).any fun z => decide (f.nm < z.nm)
def outK (f : KF) (l : List KF) (i : Nat) : List KF := if laidK f l i then insBy KF.nm f (l.take i) else l.take i
theorem laidK_iff {f : KF} {l : List KF} {i : Nat} : laidK f l i = true ↔ ∃ z ∈ l.take i, f.nm < z.nm := by simp [laidK]
theorem laidK_no {f : KF} {l : List KF} {i : Nat} (h : laidK f l i = false) : ∀ z ∈ l.take i, ¬ f.nm < z.nm := fun z hz hx => by
  have := laidK_iff.2 ⟨z, hz, hx⟩
  rw [h] at this; cases this
theorem laidK_step {f y : KF} {l : List KF} {i : Nat} (hy : l[i]? = some y) : laidK f l (i + 1) = (laidK f l i || decide (f.nm < y.nm)) := by
  unfold laidK; rw [List.take_add_one, hy, List.any_append]; simp
theorem outK_had {f y : KF} {l : List KF} {i : Nat} (hy : l[i]? = some y) (h : laidK f l i = true) : outK f l (i + 1) = outK f l i ++ [y] := by
  unfold outK
  rw [laidK_step hy, h, Bool.true_or, if_pos rfl, if_pos rfl, List.take_add_one, hy]
  exact insB_found (laidK_iff.1 h)
theorem outK_new {f y : KF} {l : List KF} {i : Nat} (hy : l[i]? = some y) (h : laidK f l i = false) (hx : f.nm < y.nm) : outK f l (i + 1) = outK f l i ++ [f] ++ [y] := by
  unfold outK
  rw [laidK_step hy, h, decide_eq_true hx]
  simp only [Bool.or_true, if_true, Bool.false_eq_true, if_false]
  rw [List.take_add_one, hy]
  exact insB_new hx (laidK_no h)
theorem outK_not {f y : KF} {l : List KF} {i : Nat} (hy : l[i]? = some y) (h : laidK f l i = false) (hx : ¬ f.nm < y.nm) : outK f l (i + 1) = outK f l i ++ [y] := by
  unfold outK
  rw [laidK_step hy, h, decide_eq_false hx]
  simp only [Bool.or_false, Bool.false_eq_true, if_false]
  rw [List.take_add_one, hy]
  rfl
theorem outK_end {f : KF} {l : List KF} : insBy KF.nm f l = if laidK f l l.length then outK f l l.length else outK f l l.length ++ [f] := by
  unfold outK
  cases h : laidK f l l.length
  · simp only [Bool.false_eq_true, if_false, List.take_length]
    have := laidK_no h
    rw [List.take_length] at this
    exact insB_none this
  · simp
theorem outK_len {f : KF} {l : List KF} {i : Nat} : (outK f l i).length ≤ i + 1 := by
  unfold outK
  have h : (l.take i).length ≤ i := by rw [List.length_take]; omega
  split
  · rw [insBy_length]; omega
  · omega
abbrev SPut (h x g o : Nat) (u v r : Value) (wx : World) : Prop := wx.cell? ⟨h, 0, none⟩ = some u ∧ wx.cell? ⟨g, o, none⟩ = some v ∧ wx.cell? ⟨x, 0, none⟩ = some r
theorem blk_appR {w' W : World} {base k : Nat} {e : TypeId} {size : Nat} {v : Value} {n : Nat} {xs : List Value} {t : TypeId} {cs : Array Value} (h : Blk W k t cs) (ho : W.ownsRow base e size v n xs) (hg : W.grownBy w' v.ownBlock) (hk : k < base) : Blk w' k t cs :=
  (hg.block _ h.lt (fun e => by have := (ho.lt _ e.symm).1; omega)).trans h
theorem cell_appR {w' W : World} {base : Nat} {e : TypeId} {size : Nat} {v u : Value} {n : Nat} {xs : List Value} {p : Addr} (h : W.cell? p = some u) (ho : W.ownsRow base e size v n xs) (hg : W.grownBy w' v.ownBlock) (hk : p.block < base) : w'.cell? p = some u := by
  rw [World.cell?_of_block (hg.block _ (World.block_lt_of_cell? _ _ h) (fun e => by have := (ho.lt _ e.symm).1; omega))]
  exact h
theorem less_nm (a b : NmT) : Op.bytesLess a b = decide (a < b) := by simp [Proofs.bytesLess_eq]
set_option maxHeartbeats 8000000 in
theorem put12_any (F : Nat → Prop) (x : Nat) (fs : List KF) (A : Option Addr) (c : Nat) (room fuse : Int) (down : Bool) (f : KF) (w : World) (h : RkG w F x fs A c room fuse down) (hf : KOk w F x none f) (h16 : fs.length ≤ 100) :
    Calls Try.prog 89 #[.pointer (some ⟨x, 0, none⟩), .agg #[sK f.nm, .slice f.sA f.S.length f.sc, .slice f.tA f.T.length f.tc]] w (SetsP w F x (insBy KF.nm f fs) room fuse down) := by
  have H := Lib.hid h
  have HF := Lib.hid hf
  have hxw := h.lt x h.Fx
  clear h hf
  obtain ⟨i0, hi, hz0, hzz, hz2⟩ := kfinfo
  go_enter Try.func89, Try.ntmps89
  go_wp2_with fail
  go_loopw [4, 5, 6] (fun s4 s5 s6 wr => ∃ (k n c' : Nat) (A' : Option Addr), k ≤ fs.length ∧ s6 = .int .i64 k ∧ s5 = .bool (laidK f fs k) ∧ s4 = .slice A' n c' ∧ n ≤ 2 * k ∧ Below w.heap.size w wr ∧ Blk wr w.heap.size 110 #[sK f.nm, .slice f.sA f.S.length f.sc, .slice f.tA f.T.length f.tc] ∧ wr.ownsRow (w.heap.size + 1) 110 3 (.slice A' n c') n (flatK (outK f fs k))) (fun _ _ s6 _ => fs.length - (intOf s6).toNat)
  case atStart => exact ⟨0, 0, 0, none, by omega, rfl, by simp [laidK], rfl, by omega, by ((repeat' first | with_reducible exact Below.refl _ _ | with_reducible assumption | with_reducible refine Below.alloc ?_ ?_ _ | with_reducible refine Below.setCell ?_ ?_ _ | with_reducible apply Below.drew | with_reducible apply below_drewN | with_reducible refine below_call ?_ (by with_reducible assumption) ?_) <;> (first | omega | (simp; done) | (simp; omega) | (simp at *; omega))), Blk.new _ _ _, by simp [outK, laidK, flatK]; exact World.ownsRow_nil _ _ _ _⟩
  case round =>
    obtain ⟨k, n, c', A', hk, rfl, rfl, rfl, hn, hb, hB, hown⟩ := hrel
    have R := H.out.keep hb
    have pc := R.hd.cell
    have pf := R.hd.frozen
    have hzr := hB.lt
    by_cases hlt : k < fs.length
    · have hfi := List.getElem?_eq_getElem hlt
      obtain ⟨g, hA, c0, c1, c2, _, hob⟩ := R.at_ hfi
      have hgw := H.out.lt g (H.out.Fr g hob)
      have k0 : (0 : Int) ≤ (k : Int) := by omega
      have k1 : (k : Int) < (fs.length : Int) := by omega
      have Hfi := Lib.hid hfi
      generalize fs[k] = y at c0 c1 c2 Hfi
      subst hA
      clear hfi
      have Hst := Lib.hid (laidK_step (f := f) Hfi.out)
      have b0 := hB.cell 0
      have p0 := R.hd.cell 0
      have hpre : SPut w.heap.size x g (k * 3) (sK f.nm) (sK y.nm) (.slice (some ⟨g, 0, none⟩) fs.length c) wr := ⟨b0, c0, p0⟩
      cases hD : laidK f fs k
      · have HD := Lib.hid hD
        clear hD
        by_cases hx : f.nm < y.nm
        · have Hout := Lib.hid (outK_new Hfi.out HD.out hx)
          have Hst2 := Lib.hid (show laidK f fs (k + 1) = true from by rw [Hst.out, HD.out, decide_eq_true hx]; rfl)
          have hgt : Op.bytesLess y.nm f.nm = false ∧ ¬ y.nm = f.nm := by
            have hne : ¬ y.nm = f.nm := fun e => nm_irrefl f.nm (by rw [e] at hx; exact hx)
            refine ⟨?_, hne⟩
            rw [less_nm]
            exact decide_eq_false fun h2 => nm_irrefl _ (nm_trans h2 hx)
          clear hx b0 p0 c0 c1 c2 pc pf R
          go_upto_region 6 with fail
          (refine wp_region_held_drew (S := (SPut w.heap.size x g (k * 3) (sK f.nm) (sK y.nm) (.slice (some ⟨g, 0, none⟩) fs.length c))) (by kernel_rfl) ?_ (fun hHeld => ?_); (· exact ⟨hpre.1, hpre.2.1, hpre.2.2⟩))
          (refine take_op (i := 0) (v := ?_) rfl (by kernel_rfl) (by kernel_rfl) (by kernel_rfl) (fun _ _ _ h => h) (by rfl) ?_ hHeld ?_; rotate_left; (· (intro wS hSw; (try dsimp only at hSw); go_simp; first | done | with_reducible rfl)); simp only [Act.put, List.setIfInBounds_toArray, List.set_cons_zero, List.set_cons_succ]); (refine take_op (i := 1) (v := ?_) rfl (by kernel_rfl) (by kernel_rfl) (by kernel_rfl) (fun _ _ _ h => h) (by rfl) ?_ hHeld ?_; rotate_left; (· (intro wS hSw; (try dsimp only at hSw); go_simp; first | done | with_reducible rfl)); simp only [Act.put, List.setIfInBounds_toArray, List.set_cons_zero, List.set_cons_succ]); (refine take_op (i := 2) (v := ?_) rfl (by kernel_rfl) (by kernel_rfl) (by kernel_rfl) (fun _ _ _ h => h) (by rfl) ?_ hHeld ?_; rotate_left; (· (intro wS hSw; (try dsimp only at hSw); go_simp; first | done | with_reducible rfl)); simp only [Act.put, List.setIfInBounds_toArray, List.set_cons_zero, List.set_cons_succ]); (refine take_op (i := 3) (v := ?_) rfl (by kernel_rfl) (by kernel_rfl) (by kernel_rfl) (fun _ _ _ h => h) (by rfl) ?_ hHeld ?_; rotate_left; (· (intro wS hSw; (try dsimp only at hSw); go_simp; first | done | with_reducible rfl)); simp only [Act.put, List.setIfInBounds_toArray, List.set_cons_zero, List.set_cons_succ]); (refine take_op (i := 4) (v := ?_) rfl (by kernel_rfl) (by kernel_rfl) (by kernel_rfl) (fun _ _ _ h => h) (by rfl) ?_ hHeld ?_; rotate_left; (· (intro wS hSw; (try dsimp only at hSw); go_simp; first | done | with_reducible rfl)); simp only [Act.put, List.setIfInBounds_toArray, List.set_cons_zero, List.set_cons_succ]); (refine take_op (i := 5) (v := ?_) rfl (by kernel_rfl) (by kernel_rfl) (by kernel_rfl) (fun _ _ _ h => h) (by rfl) ?_ hHeld ?_; rotate_left; (· (intro wS hSw; (try dsimp only at hSw); go_simp; first | done | with_reducible rfl)); simp only [Act.put, List.setIfInBounds_toArray, List.set_cons_zero, List.set_cons_succ]); (refine take_op (i := 6) (v := ?_) rfl (by kernel_rfl) (by kernel_rfl) (by kernel_rfl) (fun _ _ _ h => h) (by rfl) ?_ hHeld ?_; rotate_left; (· (intro wS hSw; (try dsimp only at hSw); go_simp; first | done | with_reducible rfl)); simp only [Act.put, List.setIfInBounds_toArray, List.set_cons_zero, List.set_cons_succ]); (refine take_op (i := 7) (v := ?_) rfl (by kernel_rfl) (by kernel_rfl) (by kernel_rfl) (fun _ _ _ h => h) (by rfl) ?_ hHeld ?_; rotate_left; (· (intro wS hSw; (try dsimp only at hSw); go_simp; first | done | with_reducible rfl)); simp only [Act.put, List.setIfInBounds_toArray, List.set_cons_zero, List.set_cons_succ]); (refine take_op (i := 8) (v := ?_) rfl (by kernel_rfl) (by kernel_rfl) (by kernel_rfl) (fun _ _ _ h => h) (by rfl) ?_ hHeld ?_; rotate_left; (· (intro wS hSw; (try dsimp only at hSw); go_simp; first | done | with_reducible rfl)); simp only [Act.put, List.setIfInBounds_toArray, List.set_cons_zero, List.set_cons_succ]); (refine take_op (i := 9) (v := ?_) rfl (by kernel_rfl) (by kernel_rfl) (by kernel_rfl) (fun _ _ _ h => h) (by rfl) ?_ hHeld ?_; rotate_left; (· (intro wS hSw; (try dsimp only at hSw); go_simp; first | done | with_reducible rfl)); simp only [Act.put, List.setIfInBounds_toArray, List.set_cons_zero, List.set_cons_succ]); (refine take_op (i := 10) (v := ?_) rfl (by kernel_rfl) (by kernel_rfl) (by kernel_rfl) (fun _ _ _ h => h) (by rfl) ?_ hHeld ?_; rotate_left; (· (intro wS hSw; (try dsimp only at hSw); go_simp; first | done | with_reducible rfl)); simp only [Act.put, List.setIfInBounds_toArray, List.set_cons_zero, List.set_cons_succ]); (refine take_op (i := 11) (v := ?_) rfl (by kernel_rfl) (by kernel_rfl) (by kernel_rfl) (fun _ _ _ h => h) (by rfl) ?_ hHeld ?_; rotate_left; (· (intro wS hSw; (try dsimp only at hSw); go_simp; first | done | with_reducible rfl)); simp only [Act.put, List.setIfInBounds_toArray, List.set_cons_zero, List.set_cons_succ]); (refine take_op (i := 12) (v := ?_) rfl (by kernel_rfl) (by kernel_rfl) (by kernel_rfl) (fun _ _ _ h => h) (by rfl) ?_ hHeld ?_; rotate_left; (· (intro wS hSw; (try dsimp only at hSw); go_simp; first | done | with_reducible rfl)); simp only [Act.put, List.setIfInBounds_toArray, List.set_cons_zero, List.set_cons_succ])
          (refine take_op (i := 13) (v := .bool true) rfl (by kernel_rfl) (by kernel_rfl) (by kernel_rfl) (fun _ _ _ h => h) (by rfl) ?_ hHeld ?_; (· (intro wS hSw; clear hSw; go_simp; try exact hgt)); simp only [Act.put, List.setIfInBounds_toArray, List.set_cons_zero, List.set_cons_succ])
          (refine take_op (i := 14) (v := ?_) rfl (by kernel_rfl) (by kernel_rfl) (by kernel_rfl) (fun _ _ _ h => h) (by rfl) ?_ hHeld ?_; rotate_left; (· (intro wS hSw; (try dsimp only at hSw); go_simp; first | done | with_reducible rfl)); simp only [Act.put, List.setIfInBounds_toArray, List.set_cons_zero, List.set_cons_succ])
          (refine wpAnyH_done (by kernel_rfl) ?_ _)
          clear hHeld hpre
          replace hb := hb.drew
          replace hown := ownR_keep hown (Below.refl wr.heap.size wr).drew
          replace hB := Blk.keep hB (Below.refl wr.heap.size wr).drew
          generalize wr.drew = wd at hb hown hB ⊢
          have hzr := hB.lt
          have R := H.out.keep hb
          have pc := R.hd.cell
          obtain ⟨g2, hA, c0, c1, c2, _, hob2⟩ := R.at_ Hfi.out
          cases hA
          have bb0 := hB.cell 0
          have bb1 := hB.cell 1
          have bb2 := hB.cell 2
          have k1' := below_one (w := wd) (.cells #[sK f.nm, .slice f.sA f.S.length f.sc, .slice f.tA f.T.length f.tc] 110)
          have hsrc := src_kf (w := wd) (e := 110) f
          have hownA := ownR_keep hown k1'
          clear R
          go_upto_region 9 with ((at_builtin; go_loud (refine wpList_app _ rfl (.tmp 31) (.tmp 33) 96 rfl _ 110 i0 _ 3 64 Try.underlying96 hi hz0 hzz hz2 rfl (by omega) _ _ _ rfl hownA _ _ _ _ rfl hsrc ?h63 ?hby ?hbase ?_); (case h63 => (unfold maxLen; first | omega | (simp; done) | (simp; omega))); (case hby => first | omega | (simp; done) | (simp; omega)); (case hbase => first | omega | (simp; done) | (simp; omega)); intro v8 w8 hownw8 hgroww8 hatw8 holdw8))
          obtain ⟨A8, c8', rfl, _, _⟩ := ownR_form hownw8
          replace hb : Below w.heap.size w w8 := below_app (below_call hb k1' hb.size) hownA hgroww8 (by omega) (by simp; omega)
          replace hB := blk_appR (hB.keep k1') hownA hgroww8 (by omega)
          replace hown := hownw8
          clear hownA hgroww8 hatw8 holdw8 hsrc k1' pc c0 c1 c2 hownw8 bb0 bb1 bb2 hzr
          have hzr := hB.lt
          have R := H.out.keep hb
          have pc := R.hd.cell
          obtain ⟨g2, hA, c0, c1, c2, _, hob2⟩ := R.at_ Hfi.out
          cases hA
          have k1' := below_one (w := w8) (.cells #[sK y.nm, .slice y.sA y.S.length y.sc, .slice y.tA y.T.length y.tc] 110)
          have hsrc := src_kf (w := w8) (e := 110) y
          have hownA := ownR_keep hown k1'
          clear R
          go_wp2_with ((at_builtin; go_loud (refine wpList_app _ rfl (.tmp 35) (.tmp 43) 96 rfl _ 110 i0 _ 3 64 Try.underlying96 hi hz0 hzz hz2 rfl (by omega) _ _ _ rfl hownA _ _ _ _ rfl hsrc ?h63 ?hby ?hbase ?_); (case h63 => (unfold maxLen; first | omega | (simp; done) | (simp; omega))); (case hby => first | omega | (simp; done) | (simp; omega)); (case hbase => first | omega | (simp; done) | (simp; omega)); intro v9 w9 hownw9 hgroww9 hatw9 holdw9))
          obtain ⟨A9, c9', rfl, _, _⟩ := ownR_form hownw9
          go_roundw
          case rel => exact ⟨k + 1, n + 1 + 1, c9', A9, by omega, by go_num, by rw [Hst2.out], rfl, by omega, below_app (below_call hb k1' hb.size) hownA hgroww9 (by omega) (by simp; omega), blk_appR (hB.keep k1') hownA hgroww9 (by omega), by rw [Hout.out, flatK_snoc, flatK_snoc]; exact hownw9⟩
          case measure => simp [intOf]; omega
        · have Hout := Lib.hid (outK_not Hfi.out HD.out hx)
          have Hst2 := Lib.hid (show laidK f fs (k + 1) = false from by rw [Hst.out, HD.out, decide_eq_false hx]; rfl)
          have hgt : Op.bytesLess y.nm f.nm = false → y.nm = f.nm := fun h2 => by
            rw [less_nm] at h2
            refine Classical.byContradiction fun hne => ?_
            rcases nm_total hne with h3 | h3
            · exact of_decide_eq_false h2 h3
            · exact hx h3
          clear hx b0 p0 c0 c1 c2 pc pf R
          go_upto_region 6 with fail
          (refine wp_region_held_drew (S := (SPut w.heap.size x g (k * 3) (sK f.nm) (sK y.nm) (.slice (some ⟨g, 0, none⟩) fs.length c))) (by kernel_rfl) ?_ (fun hHeld => ?_); (· exact ⟨hpre.1, hpre.2.1, hpre.2.2⟩))
          (refine take_op (i := 0) (v := ?_) rfl (by kernel_rfl) (by kernel_rfl) (by kernel_rfl) (fun _ _ _ h => h) (by rfl) ?_ hHeld ?_; rotate_left; (· (intro wS hSw; (try dsimp only at hSw); go_simp; first | done | with_reducible rfl)); simp only [Act.put, List.setIfInBounds_toArray, List.set_cons_zero, List.set_cons_succ]); (refine take_op (i := 1) (v := ?_) rfl (by kernel_rfl) (by kernel_rfl) (by kernel_rfl) (fun _ _ _ h => h) (by rfl) ?_ hHeld ?_; rotate_left; (· (intro wS hSw; (try dsimp only at hSw); go_simp; first | done | with_reducible rfl)); simp only [Act.put, List.setIfInBounds_toArray, List.set_cons_zero, List.set_cons_succ]); (refine take_op (i := 2) (v := ?_) rfl (by kernel_rfl) (by kernel_rfl) (by kernel_rfl) (fun _ _ _ h => h) (by rfl) ?_ hHeld ?_; rotate_left; (· (intro wS hSw; (try dsimp only at hSw); go_simp; first | done | with_reducible rfl)); simp only [Act.put, List.setIfInBounds_toArray, List.set_cons_zero, List.set_cons_succ]); (refine take_op (i := 3) (v := ?_) rfl (by kernel_rfl) (by kernel_rfl) (by kernel_rfl) (fun _ _ _ h => h) (by rfl) ?_ hHeld ?_; rotate_left; (· (intro wS hSw; (try dsimp only at hSw); go_simp; first | done | with_reducible rfl)); simp only [Act.put, List.setIfInBounds_toArray, List.set_cons_zero, List.set_cons_succ]); (refine take_op (i := 4) (v := ?_) rfl (by kernel_rfl) (by kernel_rfl) (by kernel_rfl) (fun _ _ _ h => h) (by rfl) ?_ hHeld ?_; rotate_left; (· (intro wS hSw; (try dsimp only at hSw); go_simp; first | done | with_reducible rfl)); simp only [Act.put, List.setIfInBounds_toArray, List.set_cons_zero, List.set_cons_succ]); (refine take_op (i := 5) (v := ?_) rfl (by kernel_rfl) (by kernel_rfl) (by kernel_rfl) (fun _ _ _ h => h) (by rfl) ?_ hHeld ?_; rotate_left; (· (intro wS hSw; (try dsimp only at hSw); go_simp; first | done | with_reducible rfl)); simp only [Act.put, List.setIfInBounds_toArray, List.set_cons_zero, List.set_cons_succ]); (refine take_op (i := 6) (v := ?_) rfl (by kernel_rfl) (by kernel_rfl) (by kernel_rfl) (fun _ _ _ h => h) (by rfl) ?_ hHeld ?_; rotate_left; (· (intro wS hSw; (try dsimp only at hSw); go_simp; first | done | with_reducible rfl)); simp only [Act.put, List.setIfInBounds_toArray, List.set_cons_zero, List.set_cons_succ]); (refine take_op (i := 7) (v := ?_) rfl (by kernel_rfl) (by kernel_rfl) (by kernel_rfl) (fun _ _ _ h => h) (by rfl) ?_ hHeld ?_; rotate_left; (· (intro wS hSw; (try dsimp only at hSw); go_simp; first | done | with_reducible rfl)); simp only [Act.put, List.setIfInBounds_toArray, List.set_cons_zero, List.set_cons_succ]); (refine take_op (i := 8) (v := ?_) rfl (by kernel_rfl) (by kernel_rfl) (by kernel_rfl) (fun _ _ _ h => h) (by rfl) ?_ hHeld ?_; rotate_left; (· (intro wS hSw; (try dsimp only at hSw); go_simp; first | done | with_reducible rfl)); simp only [Act.put, List.setIfInBounds_toArray, List.set_cons_zero, List.set_cons_succ]); (refine take_op (i := 9) (v := ?_) rfl (by kernel_rfl) (by kernel_rfl) (by kernel_rfl) (fun _ _ _ h => h) (by rfl) ?_ hHeld ?_; rotate_left; (· (intro wS hSw; (try dsimp only at hSw); go_simp; first | done | with_reducible rfl)); simp only [Act.put, List.setIfInBounds_toArray, List.set_cons_zero, List.set_cons_succ]); (refine take_op (i := 10) (v := ?_) rfl (by kernel_rfl) (by kernel_rfl) (by kernel_rfl) (fun _ _ _ h => h) (by rfl) ?_ hHeld ?_; rotate_left; (· (intro wS hSw; (try dsimp only at hSw); go_simp; first | done | with_reducible rfl)); simp only [Act.put, List.setIfInBounds_toArray, List.set_cons_zero, List.set_cons_succ]); (refine take_op (i := 11) (v := ?_) rfl (by kernel_rfl) (by kernel_rfl) (by kernel_rfl) (fun _ _ _ h => h) (by rfl) ?_ hHeld ?_; rotate_left; (· (intro wS hSw; (try dsimp only at hSw); go_simp; first | done | with_reducible rfl)); simp only [Act.put, List.setIfInBounds_toArray, List.set_cons_zero, List.set_cons_succ]); (refine take_op (i := 12) (v := ?_) rfl (by kernel_rfl) (by kernel_rfl) (by kernel_rfl) (fun _ _ _ h => h) (by rfl) ?_ hHeld ?_; rotate_left; (· (intro wS hSw; (try dsimp only at hSw); go_simp; first | done | with_reducible rfl)); simp only [Act.put, List.setIfInBounds_toArray, List.set_cons_zero, List.set_cons_succ])
          (refine take_op (i := 13) (v := .bool false) rfl (by kernel_rfl) (by kernel_rfl) (by kernel_rfl) (fun _ _ _ h => h) (by rfl) ?_ hHeld ?_; (· (intro wS hSw; clear hSw; go_simp; try exact hgt)); simp only [Act.put, List.setIfInBounds_toArray, List.set_cons_zero, List.set_cons_succ])
          (refine take_op (i := 14) (v := ?_) rfl (by kernel_rfl) (by kernel_rfl) (by kernel_rfl) (fun _ _ _ h => h) (by rfl) ?_ hHeld ?_; rotate_left; (· (intro wS hSw; (try dsimp only at hSw); go_simp; first | done | with_reducible rfl)); simp only [Act.put, List.setIfInBounds_toArray, List.set_cons_zero, List.set_cons_succ])
          (refine wpAnyH_done (by kernel_rfl) ?_ _)
          clear hHeld hpre
          replace hb := hb.drew
          replace hown := ownR_keep hown (Below.refl wr.heap.size wr).drew
          replace hB := Blk.keep hB (Below.refl wr.heap.size wr).drew
          generalize wr.drew = wd at hb hown hB ⊢
          have hzr := hB.lt
          have R := H.out.keep hb
          have pc := R.hd.cell
          obtain ⟨g2, hA, c0, c1, c2, _, hob2⟩ := R.at_ Hfi.out
          cases hA
          have k1' := below_one (w := wd) (.cells #[sK y.nm, .slice y.sA y.S.length y.sc, .slice y.tA y.T.length y.tc] 110)
          have hsrc := src_kf (w := wd) (e := 110) y
          have hownA := ownR_keep hown k1'
          clear R
          go_wp2_with ((at_builtin; go_loud (refine wpList_app _ rfl (.tmp 35) (.tmp 43) 96 rfl _ 110 i0 _ 3 64 Try.underlying96 hi hz0 hzz hz2 rfl (by omega) _ _ _ rfl hownA _ _ _ _ rfl hsrc ?h63 ?hby ?hbase ?_); (case h63 => (unfold maxLen; first | omega | (simp; done) | (simp; omega))); (case hby => first | omega | (simp; done) | (simp; omega)); (case hbase => first | omega | (simp; done) | (simp; omega)); intro v9 w9 hownw9 hgroww9 hatw9 holdw9))
          obtain ⟨A8, c8', rfl, _, _⟩ := ownR_form hownw9
          go_roundw
          case rel => exact ⟨k + 1, n + 1, c8', A8, by omega, by go_num, by rw [Hst2.out], rfl, by omega, below_app (below_call hb k1' hb.size) hownA hgroww9 (by omega) (by simp; omega), blk_appR (hB.keep k1') hownA hgroww9 (by omega), by rw [Hout.out, flatK_snoc]; exact hownw9⟩
          case measure => simp [intOf]; omega
      · have Hout := Lib.hid (outK_had Hfi.out hD)
        have Hst2 := Lib.hid (show laidK f fs (k + 1) = true from by rw [Hst.out, hD]; rfl)
        clear hD b0 p0 c0 c1 c2 pc pf R
        go_upto_region 6 with fail
        (refine wp_region_held_drew (S := (SPut w.heap.size x g (k * 3) (sK f.nm) (sK y.nm) (.slice (some ⟨g, 0, none⟩) fs.length c))) (by kernel_rfl) ?_ (fun hHeld => ?_); (· exact ⟨hpre.1, hpre.2.1, hpre.2.2⟩))
        (refine take_op (i := 0) (v := ?_) rfl (by kernel_rfl) (by kernel_rfl) (by kernel_rfl) (fun _ _ _ h => h) (by rfl) ?_ hHeld ?_; rotate_left; (· (intro wS hSw; (try dsimp only at hSw); go_simp; first | done | with_reducible rfl)); simp only [Act.put, List.setIfInBounds_toArray, List.set_cons_zero, List.set_cons_succ]); (refine take_op (i := 1) (v := ?_) rfl (by kernel_rfl) (by kernel_rfl) (by kernel_rfl) (fun _ _ _ h => h) (by rfl) ?_ hHeld ?_; rotate_left; (· (intro wS hSw; (try dsimp only at hSw); go_simp; first | done | with_reducible rfl)); simp only [Act.put, List.setIfInBounds_toArray, List.set_cons_zero, List.set_cons_succ]); (refine take_op (i := 2) (v := ?_) rfl (by kernel_rfl) (by kernel_rfl) (by kernel_rfl) (fun _ _ _ h => h) (by rfl) ?_ hHeld ?_; rotate_left; (· (intro wS hSw; (try dsimp only at hSw); go_simp; first | done | with_reducible rfl)); simp only [Act.put, List.setIfInBounds_toArray, List.set_cons_zero, List.set_cons_succ])
        (refine skip_op (i := 3) rfl (by kernel_rfl) (by kernel_rfl) (by kernel_rfl) (fun _ _ _ h => h) (by rfl) hHeld ?_; simp only [Act.put, List.setIfInBounds_toArray, List.set_cons_zero, List.set_cons_succ]); (refine skip_op (i := 4) rfl (by kernel_rfl) (by kernel_rfl) (by kernel_rfl) (fun _ _ _ h => h) (by rfl) hHeld ?_; simp only [Act.put, List.setIfInBounds_toArray, List.set_cons_zero, List.set_cons_succ]); (refine skip_op (i := 5) rfl (by kernel_rfl) (by kernel_rfl) (by kernel_rfl) (fun _ _ _ h => h) (by rfl) hHeld ?_; simp only [Act.put, List.setIfInBounds_toArray, List.set_cons_zero, List.set_cons_succ]); (refine skip_op (i := 6) rfl (by kernel_rfl) (by kernel_rfl) (by kernel_rfl) (fun _ _ _ h => h) (by rfl) hHeld ?_; simp only [Act.put, List.setIfInBounds_toArray, List.set_cons_zero, List.set_cons_succ]); (refine skip_op (i := 7) rfl (by kernel_rfl) (by kernel_rfl) (by kernel_rfl) (fun _ _ _ h => h) (by rfl) hHeld ?_; simp only [Act.put, List.setIfInBounds_toArray, List.set_cons_zero, List.set_cons_succ]); (refine skip_op (i := 8) rfl (by kernel_rfl) (by kernel_rfl) (by kernel_rfl) (fun _ _ _ h => h) (by rfl) hHeld ?_; simp only [Act.put, List.setIfInBounds_toArray, List.set_cons_zero, List.set_cons_succ]); (refine skip_op (i := 9) rfl (by kernel_rfl) (by kernel_rfl) (by kernel_rfl) (fun _ _ _ h => h) (by rfl) hHeld ?_; simp only [Act.put, List.setIfInBounds_toArray, List.set_cons_zero, List.set_cons_succ]); (refine skip_op (i := 10) rfl (by kernel_rfl) (by kernel_rfl) (by kernel_rfl) (fun _ _ _ h => h) (by rfl) hHeld ?_; simp only [Act.put, List.setIfInBounds_toArray, List.set_cons_zero, List.set_cons_succ]); (refine skip_op (i := 11) rfl (by kernel_rfl) (by kernel_rfl) (by kernel_rfl) (fun _ _ _ h => h) (by rfl) hHeld ?_; simp only [Act.put, List.setIfInBounds_toArray, List.set_cons_zero, List.set_cons_succ]); (refine skip_op (i := 12) rfl (by kernel_rfl) (by kernel_rfl) (by kernel_rfl) (fun _ _ _ h => h) (by rfl) hHeld ?_; simp only [Act.put, List.setIfInBounds_toArray, List.set_cons_zero, List.set_cons_succ]); (refine skip_op (i := 13) rfl (by kernel_rfl) (by kernel_rfl) (by kernel_rfl) (fun _ _ _ h => h) (by rfl) hHeld ?_; simp only [Act.put, List.setIfInBounds_toArray, List.set_cons_zero, List.set_cons_succ])
        (refine take_op (i := 14) (v := ?_) rfl (by kernel_rfl) (by kernel_rfl) (by kernel_rfl) (fun _ _ _ h => h) (by rfl) ?_ hHeld ?_; rotate_left; (· (intro wS hSw; (try dsimp only at hSw); go_simp; first | done | with_reducible rfl)); simp only [Act.put, List.setIfInBounds_toArray, List.set_cons_zero, List.set_cons_succ])
        (refine wpAnyH_done (by kernel_rfl) ?_ _)
        clear hHeld hpre
        replace hb := hb.drew
        replace hown := ownR_keep hown (Below.refl wr.heap.size wr).drew
        replace hB := Blk.keep hB (Below.refl wr.heap.size wr).drew
        generalize wr.drew = wd at hb hown hB ⊢
        have hzr := hB.lt
        have R := H.out.keep hb
        have pc := R.hd.cell
        obtain ⟨g2, hA, c0, c1, c2, _, hob2⟩ := R.at_ Hfi.out
        cases hA
        have k1' := below_one (w := wd) (.cells #[sK y.nm, .slice y.sA y.S.length y.sc, .slice y.tA y.T.length y.tc] 110)
        have hsrc := src_kf (w := wd) (e := 110) y
        have hownA := ownR_keep hown k1'
        clear R
        go_wp2_with ((at_builtin; go_loud (refine wpList_app _ rfl (.tmp 35) (.tmp 43) 96 rfl _ 110 i0 _ 3 64 Try.underlying96 hi hz0 hzz hz2 rfl (by omega) _ _ _ rfl hownA _ _ _ _ rfl hsrc ?h63 ?hby ?hbase ?_); (case h63 => (unfold maxLen; first | omega | (simp; done) | (simp; omega))); (case hby => first | omega | (simp; done) | (simp; omega)); (case hbase => first | omega | (simp; done) | (simp; omega)); intro v9 w9 hownw9 hgroww9 hatw9 holdw9))
        obtain ⟨A8, c8', rfl, _, _⟩ := ownR_form hownw9
        go_roundw
        case rel => exact ⟨k + 1, n + 1, c8', A8, by omega, by go_num, by rw [Hst2.out], rfl, by omega, below_app (below_call hb k1' hb.size) hownA hgroww9 (by omega) (by simp; omega), blk_appR (hB.keep k1') hownA hgroww9 (by omega), by rw [Hout.out, flatK_snoc]; exact hownw9⟩
        case measure => simp [intOf]; omega
    · obtain rfl : k = fs.length := by omega
      have nk : ¬ (fs.length : Int) < (fs.length : Int) := by omega
      have hend := outK_end (f := f) (l := fs)
      have hmem : ∀ u ∈ insBy KF.nm f fs, KOk w F x none u := fun u hu => by
        rcases mem_insBy.1 hu with rfl | hu
        · exact HF.out
        · exact (H.out.ok u hu).weak
      have Hmem := Lib.hid hmem
      have bb0 := hB.cell 0
      have bb1 := hB.cell 1
      have bb2 := hB.cell 2
      cases hD : laidK f fs fs.length
      · rw [hD] at hend
        simp only [Bool.false_eq_true, if_false] at hend
        have Hend := Lib.hid hend
        have k1' := below_one (w := wr) (.cells #[sK f.nm, .slice f.sA f.S.length f.sc, .slice f.tA f.T.length f.tc] 110)
        have hsrc := src_kf (w := wr) (e := 110) f
        have hownA := ownR_keep hown k1'
        clear hD hend hmem R
        go_upto_region 12 with ((at_builtin; go_loud (refine wpList_app _ rfl (.tmp 47) (.tmp 49) 96 rfl _ 110 i0 _ 3 64 Try.underlying96 hi hz0 hzz hz2 rfl (by omega) _ _ _ rfl hownA _ _ _ _ rfl hsrc ?h63 ?hby ?hbase ?_); (case h63 => (unfold maxLen; first | omega | (simp; done) | (simp; omega))); (case hby => first | omega | (simp; done) | (simp; omega)); (case hbase => first | omega | (simp; done) | (simp; omega)); intro v8 w8 hownw8 hgroww8 hatw8 holdw8))
        obtain ⟨A8, c8', rfl, _, _⟩ := ownR_form hownw8
        replace hb : Below w.heap.size w w8 := below_app (below_call hb k1' hb.size) hownA hgroww8 (by omega) (by simp; omega)
        have hr := hownw8
        rw [← flatK_snoc, ← Hend.out] at hr
        have hnn := hr.1
        rw [flatK_length] at hnn
        obtain hnn : n + 1 = (insBy KF.nm f fs).length := by omega
        rw [hnn] at hr ⊢
        have FIN := Lib.hid (sets_fin H.out hb (own_lowR hr (by omega)) Hmem.out)
        have R := H.out.keep hb
        clear pc pf
        have pc := R.hd.cell
        have pf := R.hd.frozen
        clear R hr hownw8 hgroww8 hatw8 holdw8 hownA hsrc hown bb0 bb1 bb2
        go_wp2_with fail
        go_end0
        exact FIN.out
      · rw [hD] at hend
        simp only [if_true] at hend
        have hr := hown
        rw [← hend] at hr
        have hnn := hr.1
        rw [flatK_length] at hnn
        obtain hnn : n = (insBy KF.nm f fs).length := by omega
        subst hnn
        have FIN := Lib.hid (sets_fin H.out hb (own_lowR hr (by omega)) Hmem.out)
        clear hr hown hD hend R hmem
        go_wp2_with fail
        go_end0
        exact FIN.out
end Go.Proofs.Ytpdfbkkhmfnnjaa
