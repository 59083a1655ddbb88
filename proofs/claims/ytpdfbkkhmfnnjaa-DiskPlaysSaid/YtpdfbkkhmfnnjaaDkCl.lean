/- disk: the closures of Sync, Cut, Remove, Move. -/
import Derived.Test.YtpdfbkkhmfnnjaaDkOps
import Derived.WalkKit
import Derived.WalkSpells
import Derived.WalkLawsBesides
import Derived.Deep.RegionHeld3
import Derived.Deep.DrawnRows
import Derived.Deep.DeepCutAuto
import Derived.Deep.DeepFit
import Derived.Lib.Hide
import Derived.BigQuiet
import Derived.Deep.QuietTactic
import Derived.Deep.RegionHeld3
namespace Go.Proofs.Ytpdfbkkhmfnnjaa
open Go.RowKit
set_option linter.unusedVariables false
set_option linter.unusedSimpArgs false
set_option maxRecDepth 20000
attribute [local go_sem ↓] Go.wp_at_zero Go.wp_at_succ
attribute [local go_sem] World.cell?_alloc_some frozen_alloc_some
open Go.Maps

abbrev SDkL (g : Nat) (cg : Array Value) (B1 : Nat) (c1 : Array Value) (B2 : Nat) (c2 : Array Value) (b : Nat) (s : NmT) (v : Value) (wx : World) : Prop :=
  (∀ i, wx.cell? ⟨g, i, none⟩ = cg[i]?) ∧ (∀ i, wx.cell? ⟨B1, i, none⟩ = c1[i]?) ∧ (∀ i, wx.cell? ⟨B2, i, none⟩ = c2[i]?) ∧ (Instr.lookup 93 (.map (some b)) (sV s) false).run Try.prog wx = .ok v wx
/-- How many are sure is set. -/
theorem sure_file {w : World} {F : Nat → Prop} {g b : Nat} {gs : List GF} {room fuse : Int} {down : Bool} (h : DiskG w F g b gs room fuse down) {f : GF} (hf : f ∈ gs) (n : Nat) :
    DiskG (w.setCell ⟨f.e, 1, none⟩ (.int .i64 (n : Int))) F g b (updBy GF.nm f.nm (fun _ => { f with su := n }) gs) room fuse down ∧ Turn F w (w.setCell ⟨f.e, 1, none⟩ (.int .i64 (n : Int))) := by
  have hfa := h.fl f hf
  have T2 := Turn.setCell hfa.1 1 (.int .i64 (n : Int))
  have hne : ∀ r, f.v.ownBlock = some r → r ≠ f.e := fun r hr e => hfa.row_ne hfa.1 (by decide) (by rw [hr, e])
  refine ⟨h.file (f' := { f with su := n }) hf (T2.mono fun k _ e => .inl e) (fun i hi => hi) (fun i hi => Nat.lt_of_lt_of_le (h.lt i hi) T2.size) ⟨?_, hfa.2.1.same fun r hr => T2.block r (hfa.2.1.lt hr) (hne r hr), hfa.2.2⟩ rfl rfl (.inl rfl), T2.mono fun k _ e => by rw [e]; exact hfa.2.2.1⟩
  have := hfa.1.set_ 1 (.int .i64 (n : Int))
  simpa using this
/-- A file is cut. -/
theorem cut_file {w : World} {F : Nat → Prop} {g b : Nat} {gs : List GF} {room fuse : Int} {down : Bool} (h : DiskG w F g b gs room fuse down) {f : GF} (hf : f ∈ gs) {A : Option Addr} {c n c' : Nat} (hv : f.v = .slice A f.by_.length c) (hn : n ≤ f.by_.length) (h1 : n ≤ c') (h2 : c' ≤ c) :
    DiskG (w.setCell ⟨f.e, 0, none⟩ (.slice A n c')) F g b (updBy GF.nm f.nm (fun _ => { f with by_ := f.by_.take n, v := .slice A n c' }) gs) room fuse down ∧ Turn F w (w.setCell ⟨f.e, 0, none⟩ (.slice A n c')) := by
  have hfa := h.fl f hf
  have T2 := Turn.setCell hfa.1 0 (.slice A n c')
  have hob : (Value.slice A n c').ownBlock = f.v.ownBlock := by rw [hv]; cases A <;> rfl
  have hne : ∀ r, f.v.ownBlock = some r → r ≠ f.e := fun r hr e => hfa.row_ne hfa.1 (by decide) (by rw [hr, e])
  have hcut : OwnW w (.slice A n c') (f.by_.take n) := by
    have := hfa.2.1
    rw [hv] at this
    exact this.cut hn c' h1 h2
  refine ⟨h.file (f' := { f with by_ := f.by_.take n, v := .slice A n c' }) hf (T2.mono fun k _ e => .inl e) (fun i hi => hi) (fun i hi => Nat.lt_of_lt_of_le (h.lt i hi) T2.size) ⟨?_, hcut.same fun r hr => T2.block r (hcut.lt hr) (hne r (by rw [← hob]; exact hr)), hfa.2.2.1, fun r hr => hfa.2.2.2 r (by rw [← hob]; exact hr)⟩ rfl rfl (.inl hob), T2.mono fun k _ e => by rw [e]; exact hfa.2.2.1⟩
  have := hfa.1.set_ 0 (.slice A n c')
  simpa using this
theorem updBy_upd {α : Type} {nm : α → NmT} {s : NmT} {u u' : α → α} {l : List α} (hu : ∀ x ∈ l, nm x = s → nm (u x) = s) : updBy nm s u' (updBy nm s u l) = updBy nm s (fun x => u' (u x)) l := by
  unfold updBy
  rw [List.map_map]
  apply List.map_congr_left
  intro x hx
  simp only [Function.comp]
  by_cases e : nm x = s
  · rw [if_pos e, if_pos (hu x hx e), if_pos e]
  · rw [if_neg e, if_neg e, if_neg e]
set_option maxHeartbeats 4000000 in
theorem sync1_any (F : Nat → Prop) (g b B1 B2 : Nat) (d : DkT) (s : NmT) (w : World) (h : DiskAt w F g b d) (h1 : Blk w B1 56 #[.pointer (some ⟨g, 0, none⟩)]) (h2 : Blk w B2 9 #[sV s]) (hs : wfN s) :
    Calls Try.prog 79 #[.pointer (some ⟨B1, 0, none⟩), .pointer (some ⟨B2, 0, none⟩)] w (Deeds w F g b (.int .i64 (syncC d.l s).1) { d with l := (syncC d.l s).2 }) := by
  have hok := syncC_ok (s := s) h.2
  have hlen := h.2.len
  have hle : totD d.l ≤ 1073741824 := by have h1 := h.2.tot; have h2 := h.2.room1; omega
  have hsure := h.2.sure
  obtain ⟨⟨gs, hg, hgs⟩, ok⟩ := h
  have hfd : findBy Prod.fst s d.l = (findBy GF.nm s gs).map GF.d := by rw [← hgs]; exact findBy_map (fun _ => rfl) s gs
  have hl : gs.length = d.l.length := by rw [← hgs, List.length_map]
  obtain ⟨l, room, fuse, down⟩ := d
  simp only at hg hgs hfd hle hlen hok hl hsure ⊢
  have P : Cl2 w F g b gs room fuse down B1 B2 s := ⟨hg, h1, h2⟩
  have hlk := fun W (h : DiskG W F g b gs room fuse down) => h.mp.look_ok (s := s) hs
  have hlooks := look_gs hg s
  obtain ⟨v, hv⟩ : ∃ v, entV (gs.map GF.fl) s = v := ⟨_, rfl⟩
  obtain ⟨k, hk⟩ : ∃ k, hasF (gs.map GF.fl) s = k := ⟨_, rfl⟩
  rw [hv, hk] at hlooks
  simp only [hv, hk] at hlk
  have HL := Lib.hid hlooks
  have Hlk := Lib.hid hlk
  have Hgs := Lib.hid hgs
  have Hok := Lib.hid hok
  have HS := Lib.hid hsure
  have KT := Lib.hid (Turn.refl F w)
  obtain ⟨R, hR⟩ : ∃ R, syncC l s = R := ⟨_, rfl⟩
  rw [hR] at Hok ⊢
  have HR := Lib.hid hR
  have Hfd := Lib.hid hfd
  clear hv hk hlk hlooks hg hgs ok h1 h2 hok hR hfd hsure
  go_enter Try.func79, Try.ntmps79
  go_upto_region 1 with fail
  replace P := P.keep (Below.refl _ _).drew
  replace KT := Lib.hid (KT.out.trans (Turn.of_below (F := F) (Below.refl _ _).drew) (fun i hi => .inl hi))
  have hlook := Hlk.out _ P.D
  (refine wp_region_held_drew (S := (SDk g #[.map (some b), .int .i64 room, .int .i64 fuse, .bool down] B1 #[.pointer (some ⟨g, 0, none⟩)] B2 #[sV s] b s v k)) (by kernel_rfl) ?_ (fun hHeld => ?_); (· exact ⟨P.D.hd.cell, P.b1.cell, P.b2.cell, hlook⟩))
  (refine take_op (i := 0) (v := ?_) rfl (by kernel_rfl) (by kernel_rfl) (by kernel_rfl) (fun _ _ _ h => h) (by rfl) ?_ hHeld ?_; rotate_left; (· (intro wS hSw; (try dsimp only at hSw); go_simp; first | done | with_reducible rfl)); simp only [Act.put, List.setIfInBounds_toArray, List.set_cons_zero, List.set_cons_succ]); (refine take_op (i := 1) (v := ?_) rfl (by kernel_rfl) (by kernel_rfl) (by kernel_rfl) (fun _ _ _ h => h) (by rfl) ?_ hHeld ?_; rotate_left; (· (intro wS hSw; (try dsimp only at hSw); go_simp; first | done | with_reducible rfl)); simp only [Act.put, List.setIfInBounds_toArray, List.set_cons_zero, List.set_cons_succ]); (refine take_op (i := 2) (v := ?_) rfl (by kernel_rfl) (by kernel_rfl) (by kernel_rfl) (fun _ _ _ h => h) (by rfl) ?_ hHeld ?_; rotate_left; (· (intro wS hSw; (try dsimp only at hSw); go_simp; first | done | with_reducible rfl)); simp only [Act.put, List.setIfInBounds_toArray, List.set_cons_zero, List.set_cons_succ]); (refine take_op (i := 3) (v := ?_) rfl (by kernel_rfl) (by kernel_rfl) (by kernel_rfl) (fun _ _ _ h => h) (by rfl) ?_ hHeld ?_; rotate_left; (· (intro wS hSw; (try dsimp only at hSw); go_simp; first | done | with_reducible rfl)); simp only [Act.put, List.setIfInBounds_toArray, List.set_cons_zero, List.set_cons_succ]); (refine take_op (i := 4) (v := ?_) rfl (by kernel_rfl) (by kernel_rfl) (by kernel_rfl) (fun _ _ _ h => h) (by rfl) ?_ hHeld ?_; rotate_left; (· (intro wS hSw; (try dsimp only at hSw); go_simp; first | done | with_reducible rfl)); simp only [Act.put, List.setIfInBounds_toArray, List.set_cons_zero, List.set_cons_succ]); (refine take_op (i := 5) (v := ?_) rfl (by kernel_rfl) (by kernel_rfl) (by kernel_rfl) (fun _ _ _ h => h) (by rfl) ?_ hHeld ?_; rotate_left; (· (intro wS hSw; (try dsimp only at hSw); go_simp; first | done | with_reducible rfl)); simp only [Act.put, List.setIfInBounds_toArray, List.set_cons_zero, List.set_cons_succ]); (refine take_op (i := 6) (v := ?_) rfl (by kernel_rfl) (by kernel_rfl) (by kernel_rfl) (fun _ _ _ h => h) (by rfl) ?_ hHeld ?_; rotate_left; (· (intro wS hSw; (try dsimp only at hSw); go_simp; first | done | with_reducible rfl)); simp only [Act.put, List.setIfInBounds_toArray, List.set_cons_zero, List.set_cons_succ]); (refine take_op (i := 7) (v := ?_) rfl (by kernel_rfl) (by kernel_rfl) (by kernel_rfl) (fun _ _ _ h => h) (by rfl) ?_ hHeld ?_; rotate_left; (· (intro wS hSw; (try dsimp only at hSw); go_simp; first | done | with_reducible rfl)); simp only [Act.put, List.setIfInBounds_toArray, List.set_cons_zero, List.set_cons_succ]); (refine take_op (i := 8) (v := ?_) rfl (by kernel_rfl) (by kernel_rfl) (by kernel_rfl) (fun _ _ _ h => h) (by rfl) ?_ hHeld ?_; rotate_left; (· (intro wS hSw; (try dsimp only at hSw); go_simp; first | done | with_reducible rfl)); simp only [Act.put, List.setIfInBounds_toArray, List.set_cons_zero, List.set_cons_succ]); (refine take_op (i := 9) (v := ?_) rfl (by kernel_rfl) (by kernel_rfl) (by kernel_rfl) (fun _ _ _ h => h) (by rfl) ?_ hHeld ?_; rotate_left; (· (intro wS hSw; (try dsimp only at hSw); go_simp; first | done | with_reducible rfl)); simp only [Act.put, List.setIfInBounds_toArray, List.set_cons_zero, List.set_cons_succ]); (refine take_op (i := 10) (v := ?_) rfl (by kernel_rfl) (by kernel_rfl) (by kernel_rfl) (fun _ _ _ h => h) (by rfl) ?_ hHeld ?_; rotate_left; (· (intro wS hSw; (try dsimp only at hSw); go_simp; first | done | with_reducible rfl)); simp only [Act.put, List.setIfInBounds_toArray, List.set_cons_zero, List.set_cons_succ])
  (refine wpAnyH_done (by kernel_rfl) ?_ _)
  clear hHeld hlook Hlk
  revert P KT
  generalize World.drew _ = wd
  intro P KT
  rcases HL.out with ⟨f, hf, hfn, hff, rfl, rfl⟩ | ⟨hff, rfl, rfl⟩
  · obtain rfl : R = (0, updBy Prod.fst s (fun f => (f.1, f.2.1, f.2.1.length)) l) := by
      have hfd2 := Hfd.out
      rw [hff] at hfd2
      rw [← HR.out]
      simp [syncC, hfd2]
    obtain ⟨g1, g2⟩ := sure_file P.D hf f.by_.length
    have G1 := Lib.hid g1
    have G2 := Lib.hid (KT.out.trans g2 (fun i hi => .inl hi))
    have HU := Lib.hid (show (updBy GF.nm f.nm (fun _ => { f with su := f.by_.length }) gs).map GF.d = updBy Prod.fst s (fun f => (f.1, f.2.1, f.2.1.length)) l by
      rw [updBy_map (nm' := Prod.fst) (d := GF.d) (fun _ => rfl) f.nm (u' := fun f => (f.1, f.2.1, f.2.1.length)) (fun x hx e => by rw [asc_one P.D.asc hx hf e]), Hgs.out, hfn])
    have hfa := P.D.fl f hf
    obtain ⟨A1, c1, hv1, _, _⟩ := hfa.2.1.form
    have eb := hfa.1
    rw [hv1] at eb
    have ec := eb.cell
    have ef := eb.frozen
    clear hff HL g1 g2 hfa hv1 eb hf
    go_wp2_with fail
    go_ret
    exact ⟨rfl, F, ⟨⟨_, G1.out, HU.out⟩, Hok.out⟩, fun k hk => .inl hk, G2.out⟩
  · obtain rfl : R = (8, l) := by
      have hfd2 := Hfd.out
      rw [hff] at hfd2
      rw [← HR.out]
      simp [syncC, hfd2]
    go_wp2_with fail
    go_ret
    exact ⟨rfl, F, ⟨⟨gs, P.D, Hgs.out⟩, Hok.out⟩, fun i hi => .inl hi, KT.out⟩
set_option maxHeartbeats 4000000 in
theorem remove1_any (F : Nat → Prop) (g b B1 B2 : Nat) (d : DkT) (s : NmT) (w : World) (h : DiskAt w F g b d) (h1 : Blk w B1 56 #[.pointer (some ⟨g, 0, none⟩)]) (h2 : Blk w B2 9 #[sV s]) (hs : wfN s) :
    Calls Try.prog 84 #[.pointer (some ⟨B1, 0, none⟩), .pointer (some ⟨B2, 0, none⟩)] w (Deeds w F g b (.int .i64 (remC d.l s).1) { d with l := (remC d.l s).2 }) := by
  have hok := remC_ok (s := s) h.2
  have hlen := h.2.len
  have hle : totD d.l ≤ 1073741824 := by have h1 := h.2.tot; have h2 := h.2.room1; omega
  have hsure := h.2.sure
  obtain ⟨⟨gs, hg, hgs⟩, ok⟩ := h
  have hfd : findBy Prod.fst s d.l = (findBy GF.nm s gs).map GF.d := by rw [← hgs]; exact findBy_map (fun _ => rfl) s gs
  have hl : gs.length = d.l.length := by rw [← hgs, List.length_map]
  obtain ⟨l, room, fuse, down⟩ := d
  simp only at hg hgs hfd hle hlen hok hl hsure ⊢
  have P : Cl2 w F g b gs room fuse down B1 B2 s := ⟨hg, h1, h2⟩
  have hlk := fun W (h : DiskG W F g b gs room fuse down) => h.mp.look (s := s) hs
  have hlooks := look_gs hg s
  obtain ⟨v, hv⟩ : ∃ v, entV (gs.map GF.fl) s = v := ⟨_, rfl⟩
  obtain ⟨k, hk⟩ : ∃ k, hasF (gs.map GF.fl) s = k := ⟨_, rfl⟩
  rw [hv, hk] at hlooks
  simp only [hv] at hlk
  have HL := Lib.hid hlooks
  have Hlk := Lib.hid hlk
  have Hgs := Lib.hid hgs
  have Hok := Lib.hid hok
  have HS := Lib.hid hsure
  have KT := Lib.hid (Turn.refl F w)
  obtain ⟨R, hR⟩ : ∃ R, remC l s = R := ⟨_, rfl⟩
  rw [hR] at Hok ⊢
  have HR := Lib.hid hR
  have Hfd := Lib.hid hfd
  clear hv hk hlk hlooks hg hgs ok h1 h2 hok hR hfd hsure
  go_enter Try.func84, Try.ntmps84
  go_upto_region 1 with fail
  replace P := P.keep (Below.refl _ _).drew
  replace KT := Lib.hid (KT.out.trans (Turn.of_below (F := F) (Below.refl _ _).drew) (fun i hi => .inl hi))
  have hlook := Hlk.out _ P.D
  (refine wp_region_held_drew (S := (SDkL g #[.map (some b), .int .i64 room, .int .i64 fuse, .bool down] B1 #[.pointer (some ⟨g, 0, none⟩)] B2 #[sV s] b s v)) (by kernel_rfl) ?_ (fun hHeld => ?_); (· exact ⟨P.D.hd.cell, P.b1.cell, P.b2.cell, hlook⟩))
  (refine take_op (i := 0) (v := ?_) rfl (by kernel_rfl) (by kernel_rfl) (by kernel_rfl) (fun _ _ _ h => h) (by rfl) ?_ hHeld ?_; rotate_left; (· (intro wS hSw; (try dsimp only at hSw); go_simp; first | done | with_reducible rfl)); simp only [Act.put, List.setIfInBounds_toArray, List.set_cons_zero, List.set_cons_succ]); (refine take_op (i := 1) (v := ?_) rfl (by kernel_rfl) (by kernel_rfl) (by kernel_rfl) (fun _ _ _ h => h) (by rfl) ?_ hHeld ?_; rotate_left; (· (intro wS hSw; (try dsimp only at hSw); go_simp; first | done | with_reducible rfl)); simp only [Act.put, List.setIfInBounds_toArray, List.set_cons_zero, List.set_cons_succ]); (refine take_op (i := 2) (v := ?_) rfl (by kernel_rfl) (by kernel_rfl) (by kernel_rfl) (fun _ _ _ h => h) (by rfl) ?_ hHeld ?_; rotate_left; (· (intro wS hSw; (try dsimp only at hSw); go_simp; first | done | with_reducible rfl)); simp only [Act.put, List.setIfInBounds_toArray, List.set_cons_zero, List.set_cons_succ]); (refine take_op (i := 3) (v := ?_) rfl (by kernel_rfl) (by kernel_rfl) (by kernel_rfl) (fun _ _ _ h => h) (by rfl) ?_ hHeld ?_; rotate_left; (· (intro wS hSw; (try dsimp only at hSw); go_simp; first | done | with_reducible rfl)); simp only [Act.put, List.setIfInBounds_toArray, List.set_cons_zero, List.set_cons_succ]); (refine take_op (i := 4) (v := ?_) rfl (by kernel_rfl) (by kernel_rfl) (by kernel_rfl) (fun _ _ _ h => h) (by rfl) ?_ hHeld ?_; rotate_left; (· (intro wS hSw; (try dsimp only at hSw); go_simp; first | done | with_reducible rfl)); simp only [Act.put, List.setIfInBounds_toArray, List.set_cons_zero, List.set_cons_succ]); (refine take_op (i := 5) (v := ?_) rfl (by kernel_rfl) (by kernel_rfl) (by kernel_rfl) (fun _ _ _ h => h) (by rfl) ?_ hHeld ?_; rotate_left; (· (intro wS hSw; (try dsimp only at hSw); go_simp; first | done | with_reducible rfl)); simp only [Act.put, List.setIfInBounds_toArray, List.set_cons_zero, List.set_cons_succ])
  rcases HL.out with ⟨f, hf, hfn, hff, rfl, rfl⟩ | ⟨hff, rfl, rfl⟩
  · (refine take_op (i := 6) (v := ?_) rfl (by kernel_rfl) (by kernel_rfl) (by kernel_rfl) (fun _ _ _ h => h) (by rfl) ?_ hHeld ?_; rotate_left; (· (intro wS hSw; (try dsimp only at hSw); go_simp; first | done | with_reducible rfl)); simp only [Act.put, List.setIfInBounds_toArray, List.set_cons_zero, List.set_cons_succ])
    (refine wpAnyH_done (by kernel_rfl) ?_ _)
    clear hHeld hlook Hlk
    revert P KT
    generalize World.drew _ = wd
    intro P KT
    obtain rfl : R = (0, outBy Prod.fst s l) := by
      have hfd2 := Hfd.out
      rw [hff] at hfd2
      rw [← HR.out]
      simp [remC, hfd2]
    clear hff HL
    go_upto_region 3 with fail
    replace P := P.keep (Below.refl _ _).drew
    replace KT := Lib.hid (KT.out.trans (Turn.of_below (F := F) (Below.refl _ _).drew) (fun i hi => .inl hi))
    (refine wp_region_held_drew (S := (SDk2 g #[.map (some b), .int .i64 room, .int .i64 fuse, .bool down] B1 #[.pointer (some ⟨g, 0, none⟩)] B2 #[sV s])) (by kernel_rfl) ?_ (fun hHeld => ?_); (· exact ⟨P.D.hd.cell, P.b1.cell, P.b2.cell⟩))
    (refine take_op (i := 0) (v := ?_) rfl (by kernel_rfl) (by kernel_rfl) (by kernel_rfl) (fun _ _ _ h => h) (by rfl) ?_ hHeld ?_; rotate_left; (· (intro wS hSw; (try dsimp only at hSw); go_simp; first | done | with_reducible rfl)); simp only [Act.put, List.setIfInBounds_toArray, List.set_cons_zero, List.set_cons_succ]); (refine take_op (i := 1) (v := ?_) rfl (by kernel_rfl) (by kernel_rfl) (by kernel_rfl) (fun _ _ _ h => h) (by rfl) ?_ hHeld ?_; rotate_left; (· (intro wS hSw; (try dsimp only at hSw); go_simp; first | done | with_reducible rfl)); simp only [Act.put, List.setIfInBounds_toArray, List.set_cons_zero, List.set_cons_succ]); (refine take_op (i := 2) (v := ?_) rfl (by kernel_rfl) (by kernel_rfl) (by kernel_rfl) (fun _ _ _ h => h) (by rfl) ?_ hHeld ?_; rotate_left; (· (intro wS hSw; (try dsimp only at hSw); go_simp; first | done | with_reducible rfl)); simp only [Act.put, List.setIfInBounds_toArray, List.set_cons_zero, List.set_cons_succ]); (refine take_op (i := 3) (v := ?_) rfl (by kernel_rfl) (by kernel_rfl) (by kernel_rfl) (fun _ _ _ h => h) (by rfl) ?_ hHeld ?_; rotate_left; (· (intro wS hSw; (try dsimp only at hSw); go_simp; first | done | with_reducible rfl)); simp only [Act.put, List.setIfInBounds_toArray, List.set_cons_zero, List.set_cons_succ]); (refine take_op (i := 4) (v := ?_) rfl (by kernel_rfl) (by kernel_rfl) (by kernel_rfl) (fun _ _ _ h => h) (by rfl) ?_ hHeld ?_; rotate_left; (· (intro wS hSw; (try dsimp only at hSw); go_simp; first | done | with_reducible rfl)); simp only [Act.put, List.setIfInBounds_toArray, List.set_cons_zero, List.set_cons_succ])
    obtain ⟨w5, hrun, hm5, hg5⟩ := P.D.mp.drop hs 0
    obtain ⟨es, cl, hmp⟩ := P.D.mp.is_map
    have T5 : Turn (fun i => i = b) _ w5 := Turn.of_grown hg5 fun k e => by injection e with e; exact e.symm
    have D5 := P.D.del s T5 hm5
    have b15 := blk_map hmp hg5 P.b1
    have b25 := blk_map hmp hg5 P.b2
    have KT5 := Lib.hid (KT.out.trans (T5.mono (F' := F) fun k _ e => by rw [e]; exact P.D.Fb) (fun i hi => .inl hi))
    clear hm5 hg5 hmp T5
    (refine call_op (i := 5) rfl (by kernel_rfl) (by rfl) (fun K hK => ?_); go_simp; skip; refine hK.out _ _ ⟨D5.hd.cell, b15.cell, b25.cell⟩ (fun hHeld2 => ?_); clear hK K hHeld; have hHeld := hHeld2; clear hHeld2; (try simp only [Act.put, List.setIfInBounds_toArray, List.set_cons_zero, List.set_cons_succ]))
    (refine wpAnyH_done (by kernel_rfl) ?_ _)
    clear hHeld hrun b15 b25
    go_wp2_with fail
    go_ret
    exact ⟨rfl, F, ⟨⟨_, D5, by rw [outBy_map (nm' := Prod.fst) (d := GF.d) (fun _ => rfl), Hgs.out]⟩, Hok.out⟩, fun i hi => .inl hi, KT5.out⟩
  · (refine take_op (i := 6) (v := ?_) rfl (by kernel_rfl) (by kernel_rfl) (by kernel_rfl) (fun _ _ _ h => h) (by rfl) ?_ hHeld ?_; rotate_left; (· (intro wS hSw; (try dsimp only at hSw); go_simp; first | done | with_reducible rfl)); simp only [Act.put, List.setIfInBounds_toArray, List.set_cons_zero, List.set_cons_succ])
    (refine wpAnyH_done (by kernel_rfl) ?_ _)
    clear hHeld hlook Hlk
    obtain rfl : R = (8, l) := by
      have hfd2 := Hfd.out
      rw [hff] at hfd2
      rw [← HR.out]
      simp [remC, hfd2]
    go_wp2_with fail
    go_ret
    exact ⟨rfl, F, ⟨⟨gs, P.D, Hgs.out⟩, Hok.out⟩, fun i hi => .inl hi, KT.out⟩
set_option maxHeartbeats 4000000 in
theorem cut1_any (F : Nat → Prop) (g b B1 B2 B3 : Nat) (d : DkT) (s : NmT) (n : Int) (w : World) (h : DiskAt w F g b d) (h1 : Blk w B1 56 #[.pointer (some ⟨g, 0, none⟩)]) (h2 : Blk w B2 9 #[sV s]) (h3 : Blk w B3 3 #[.int .i64 n]) (hs : wfN s) (hwn : (Lit.int .i64 n).wf = true) :
    Calls Try.prog 85 #[.pointer (some ⟨B1, 0, none⟩), .pointer (some ⟨B2, 0, none⟩), .pointer (some ⟨B3, 0, none⟩)] w (Deeds w F g b (.int .i64 (cutC d.l s n).1) { d with l := (cutC d.l s n).2 }) := by
  have hok := cutC_ok (s := s) h.2 n
  have hlen := h.2.len
  have hle : totD d.l ≤ 1073741824 := by have h1 := h.2.tot; have h2 := h.2.room1; omega
  have hsure := h.2.sure
  obtain ⟨⟨gs, hg, hgs⟩, ok⟩ := h
  have hfd : findBy Prod.fst s d.l = (findBy GF.nm s gs).map GF.d := by rw [← hgs]; exact findBy_map (fun _ => rfl) s gs
  have hl : gs.length = d.l.length := by rw [← hgs, List.length_map]
  obtain ⟨l, room, fuse, down⟩ := d
  simp only at hg hgs hfd hle hlen hok hl hsure ⊢
  have P : Cl2 w F g b gs room fuse down B1 B2 s := ⟨hg, h1, h2⟩
  have hlk := fun W (h : DiskG W F g b gs room fuse down) => h.mp.look_ok (s := s) hs
  have hlooks := look_gs hg s
  obtain ⟨v, hv⟩ : ∃ v, entV (gs.map GF.fl) s = v := ⟨_, rfl⟩
  obtain ⟨k, hk⟩ : ∃ k, hasF (gs.map GF.fl) s = k := ⟨_, rfl⟩
  rw [hv, hk] at hlooks
  simp only [hv, hk] at hlk
  have HL := Lib.hid hlooks
  have Hlk := Lib.hid hlk
  have Hgs := Lib.hid hgs
  have Hok := Lib.hid hok
  have HS := Lib.hid hsure
  have KT := Lib.hid (Turn.refl F w)
  obtain ⟨R, hR⟩ : ∃ R, cutC l s n = R := ⟨_, rfl⟩
  rw [hR] at Hok ⊢
  have HR := Lib.hid hR
  have Hfd := Lib.hid hfd
  clear hv hk hlk hlooks hg hgs ok h1 h2 hok hR hfd hsure
  go_enter Try.func85, Try.ntmps85
  go_upto_region 1 with fail
  replace P := P.keep (Below.refl _ _).drew
  replace h3 := Blk.keep h3 (Below.refl _ _).drew
  replace KT := Lib.hid (KT.out.trans (Turn.of_below (F := F) (Below.refl _ _).drew) (fun i hi => .inl hi))
  have hlook := Hlk.out _ P.D
  (refine wp_region_held_drew (S := (SDk g #[.map (some b), .int .i64 room, .int .i64 fuse, .bool down] B1 #[.pointer (some ⟨g, 0, none⟩)] B2 #[sV s] b s v k)) (by kernel_rfl) ?_ (fun hHeld => ?_); (· exact ⟨P.D.hd.cell, P.b1.cell, P.b2.cell, hlook⟩))
  (refine take_op (i := 0) (v := ?_) rfl (by kernel_rfl) (by kernel_rfl) (by kernel_rfl) (fun _ _ _ h => h) (by rfl) ?_ hHeld ?_; rotate_left; (· (intro wS hSw; (try dsimp only at hSw); go_simp; first | done | with_reducible rfl)); simp only [Act.put, List.setIfInBounds_toArray, List.set_cons_zero, List.set_cons_succ]); (refine take_op (i := 1) (v := ?_) rfl (by kernel_rfl) (by kernel_rfl) (by kernel_rfl) (fun _ _ _ h => h) (by rfl) ?_ hHeld ?_; rotate_left; (· (intro wS hSw; (try dsimp only at hSw); go_simp; first | done | with_reducible rfl)); simp only [Act.put, List.setIfInBounds_toArray, List.set_cons_zero, List.set_cons_succ]); (refine take_op (i := 2) (v := ?_) rfl (by kernel_rfl) (by kernel_rfl) (by kernel_rfl) (fun _ _ _ h => h) (by rfl) ?_ hHeld ?_; rotate_left; (· (intro wS hSw; (try dsimp only at hSw); go_simp; first | done | with_reducible rfl)); simp only [Act.put, List.setIfInBounds_toArray, List.set_cons_zero, List.set_cons_succ]); (refine take_op (i := 3) (v := ?_) rfl (by kernel_rfl) (by kernel_rfl) (by kernel_rfl) (fun _ _ _ h => h) (by rfl) ?_ hHeld ?_; rotate_left; (· (intro wS hSw; (try dsimp only at hSw); go_simp; first | done | with_reducible rfl)); simp only [Act.put, List.setIfInBounds_toArray, List.set_cons_zero, List.set_cons_succ]); (refine take_op (i := 4) (v := ?_) rfl (by kernel_rfl) (by kernel_rfl) (by kernel_rfl) (fun _ _ _ h => h) (by rfl) ?_ hHeld ?_; rotate_left; (· (intro wS hSw; (try dsimp only at hSw); go_simp; first | done | with_reducible rfl)); simp only [Act.put, List.setIfInBounds_toArray, List.set_cons_zero, List.set_cons_succ]); (refine take_op (i := 5) (v := ?_) rfl (by kernel_rfl) (by kernel_rfl) (by kernel_rfl) (fun _ _ _ h => h) (by rfl) ?_ hHeld ?_; rotate_left; (· (intro wS hSw; (try dsimp only at hSw); go_simp; first | done | with_reducible rfl)); simp only [Act.put, List.setIfInBounds_toArray, List.set_cons_zero, List.set_cons_succ]); (refine take_op (i := 6) (v := ?_) rfl (by kernel_rfl) (by kernel_rfl) (by kernel_rfl) (fun _ _ _ h => h) (by rfl) ?_ hHeld ?_; rotate_left; (· (intro wS hSw; (try dsimp only at hSw); go_simp; first | done | with_reducible rfl)); simp only [Act.put, List.setIfInBounds_toArray, List.set_cons_zero, List.set_cons_succ]); (refine take_op (i := 7) (v := ?_) rfl (by kernel_rfl) (by kernel_rfl) (by kernel_rfl) (fun _ _ _ h => h) (by rfl) ?_ hHeld ?_; rotate_left; (· (intro wS hSw; (try dsimp only at hSw); go_simp; first | done | with_reducible rfl)); simp only [Act.put, List.setIfInBounds_toArray, List.set_cons_zero, List.set_cons_succ]); (refine take_op (i := 8) (v := ?_) rfl (by kernel_rfl) (by kernel_rfl) (by kernel_rfl) (fun _ _ _ h => h) (by rfl) ?_ hHeld ?_; rotate_left; (· (intro wS hSw; (try dsimp only at hSw); go_simp; first | done | with_reducible rfl)); simp only [Act.put, List.setIfInBounds_toArray, List.set_cons_zero, List.set_cons_succ]); (refine take_op (i := 9) (v := ?_) rfl (by kernel_rfl) (by kernel_rfl) (by kernel_rfl) (fun _ _ _ h => h) (by rfl) ?_ hHeld ?_; rotate_left; (· (intro wS hSw; (try dsimp only at hSw); go_simp; first | done | with_reducible rfl)); simp only [Act.put, List.setIfInBounds_toArray, List.set_cons_zero, List.set_cons_succ]); (refine take_op (i := 10) (v := ?_) rfl (by kernel_rfl) (by kernel_rfl) (by kernel_rfl) (fun _ _ _ h => h) (by rfl) ?_ hHeld ?_; rotate_left; (· (intro wS hSw; (try dsimp only at hSw); go_simp; first | done | with_reducible rfl)); simp only [Act.put, List.setIfInBounds_toArray, List.set_cons_zero, List.set_cons_succ])
  (refine wpAnyH_done (by kernel_rfl) ?_ _)
  clear hHeld hlook Hlk
  revert P h3 KT
  generalize World.drew _ = wd
  intro P h3 KT
  rcases HL.out with ⟨f, hf, hfn, hff, rfl, rfl⟩ | ⟨hff, rfl, rfl⟩
  · have hfd2 : findBy Prod.fst s l = some f.d := by
      have := Hfd.out
      rw [hff] at this
      exact this
    have hby : f.by_.length ≤ 1073741824 := by
      have h1 : f.d ∈ l := by rw [← Hgs.out]; exact List.mem_map.2 ⟨f, hf, rfl⟩
      have h2 := totD_upd (u := fun _ => ((s, [], 0) : DF)) (s := s) (by rw [← Hgs.out]; exact List.pairwise_map.2 P.D.asc) h1 hfn
      simp only [List.length_nil] at h2
      omega
    have hfa := P.D.fl f hf
    obtain ⟨A1, c1, hv1, hc1, _⟩ := hfa.2.1.form
    have eb := hfa.1
    rw [hv1] at eb
    have HS0 : ∀ (W : World) (h3 : Blk W B3 3 #[.int .i64 n]) (eb : Blk W f.e 124 #[.slice A1 f.by_.length c1, .int .i64 (f.su : Int)]), SDk2 B3 #[.int .i64 n] f.e #[.slice A1 f.by_.length c1, .int .i64 (f.su : Int)] B3 #[.int .i64 n] W := fun W h3 eb => ⟨h3.cell, eb.cell, h3.cell⟩
    by_cases hneg : n < 0
    · obtain rfl : R = (6, l) := by rw [← HR.out]; simp [cutC, hfd2, hneg]
      go_upto_region 4 with fail
      (refine wp_region_held_drew (S := (SDk2 B3 #[.int .i64 n] f.e #[.slice A1 f.by_.length c1, .int .i64 (f.su : Int)] B3 #[.int .i64 n])) (by kernel_rfl) ?_ (fun hHeld => ?_); (· exact HS0 _ (Blk.keep h3 (Below.refl _ _).drew) (Blk.keep eb (Below.refl _ _).drew)))
      (refine take_op (i := 0) (v := ?_) rfl (by kernel_rfl) (by kernel_rfl) (by kernel_rfl) (fun _ _ _ h => h) (by rfl) ?_ hHeld ?_; rotate_left; (· (intro wS hSw; (try dsimp only at hSw); go_simp; first | done | with_reducible rfl)); simp only [Act.put, List.setIfInBounds_toArray, List.set_cons_zero, List.set_cons_succ]); (refine take_op (i := 1) (v := ?_) rfl (by kernel_rfl) (by kernel_rfl) (by kernel_rfl) (fun _ _ _ h => h) (by rfl) ?_ hHeld ?_; rotate_left; (· (intro wS hSw; (try dsimp only at hSw); go_simp; first | done | with_reducible rfl)); simp only [Act.put, List.setIfInBounds_toArray, List.set_cons_zero, List.set_cons_succ]); (refine take_op (i := 2) (v := ?_) rfl (by kernel_rfl) (by kernel_rfl) (by kernel_rfl) (fun _ _ _ h => h) (by rfl) ?_ hHeld ?_; rotate_left; (· (intro wS hSw; (try dsimp only at hSw); go_simp; first | done | with_reducible rfl)); simp only [Act.put, List.setIfInBounds_toArray, List.set_cons_zero, List.set_cons_succ])
      (refine skip_op (i := 3) rfl (by kernel_rfl) (by kernel_rfl) (by kernel_rfl) (fun _ _ _ h => h) (by rfl) hHeld ?_; simp only [Act.put, List.setIfInBounds_toArray, List.set_cons_zero, List.set_cons_succ]); (refine skip_op (i := 4) rfl (by kernel_rfl) (by kernel_rfl) (by kernel_rfl) (fun _ _ _ h => h) (by rfl) hHeld ?_; simp only [Act.put, List.setIfInBounds_toArray, List.set_cons_zero, List.set_cons_succ]); (refine skip_op (i := 5) rfl (by kernel_rfl) (by kernel_rfl) (by kernel_rfl) (fun _ _ _ h => h) (by rfl) hHeld ?_; simp only [Act.put, List.setIfInBounds_toArray, List.set_cons_zero, List.set_cons_succ]); (refine skip_op (i := 6) rfl (by kernel_rfl) (by kernel_rfl) (by kernel_rfl) (fun _ _ _ h => h) (by rfl) hHeld ?_; simp only [Act.put, List.setIfInBounds_toArray, List.set_cons_zero, List.set_cons_succ]); (refine skip_op (i := 7) rfl (by kernel_rfl) (by kernel_rfl) (by kernel_rfl) (fun _ _ _ h => h) (by rfl) hHeld ?_; simp only [Act.put, List.setIfInBounds_toArray, List.set_cons_zero, List.set_cons_succ]); (refine skip_op (i := 8) rfl (by kernel_rfl) (by kernel_rfl) (by kernel_rfl) (fun _ _ _ h => h) (by rfl) hHeld ?_; simp only [Act.put, List.setIfInBounds_toArray, List.set_cons_zero, List.set_cons_succ]); (refine skip_op (i := 9) rfl (by kernel_rfl) (by kernel_rfl) (by kernel_rfl) (fun _ _ _ h => h) (by rfl) hHeld ?_; simp only [Act.put, List.setIfInBounds_toArray, List.set_cons_zero, List.set_cons_succ])
      (refine take_op (i := 10) (v := ?_) rfl (by kernel_rfl) (by kernel_rfl) (by kernel_rfl) (fun _ _ _ h => h) (by rfl) ?_ hHeld ?_; rotate_left; (· (intro wS hSw; (try dsimp only at hSw); go_simp; first | done | with_reducible rfl)); simp only [Act.put, List.setIfInBounds_toArray, List.set_cons_zero, List.set_cons_succ]); (refine take_op (i := 11) (v := ?_) rfl (by kernel_rfl) (by kernel_rfl) (by kernel_rfl) (fun _ _ _ h => h) (by rfl) ?_ hHeld ?_; rotate_left; (· (intro wS hSw; (try dsimp only at hSw); go_simp; first | done | with_reducible rfl)); simp only [Act.put, List.setIfInBounds_toArray, List.set_cons_zero, List.set_cons_succ])
      (refine wpAnyH_done (by kernel_rfl) ?_ _)
      replace P := P.keep (Below.refl _ _).drew
      replace KT := Lib.hid (KT.out.trans (Turn.of_below (F := F) (Below.refl _ _).drew) (fun i hi => .inl hi))
      clear hHeld
      go_wp2_with fail
      go_ret
      exact ⟨rfl, F, ⟨⟨gs, P.D, Hgs.out⟩, Hok.out⟩, fun i hi => .inl hi, KT.out⟩
    · obtain ⟨nn, rfl⟩ : ∃ nn : Nat, n = (nn : Int) := ⟨n.toNat, by omega⟩
      by_cases hbig : (f.by_.length : Int) < (nn : Int)
      · obtain rfl : R = (6, l) := by rw [← HR.out]; simp [cutC, hfd2, show f.by_.length < nn by omega]
        have hbd : decide ((f.by_.length : Int) < (nn : Int)) = true := decide_eq_true hbig
        go_upto_region 4 with fail
        (refine wp_region_held_drew (S := (SDk2 B3 #[.int .i64 (nn : Int)] f.e #[.slice A1 f.by_.length c1, .int .i64 (f.su : Int)] B3 #[.int .i64 (nn : Int)])) (by kernel_rfl) ?_ (fun hHeld => ?_); (· exact HS0 _ (Blk.keep h3 (Below.refl _ _).drew) (Blk.keep eb (Below.refl _ _).drew)))
        (refine take_op (i := 0) (v := ?_) rfl (by kernel_rfl) (by kernel_rfl) (by kernel_rfl) (fun _ _ _ h => h) (by rfl) ?_ hHeld ?_; rotate_left; (· (intro wS hSw; (try dsimp only at hSw); go_simp; first | done | with_reducible rfl)); simp only [Act.put, List.setIfInBounds_toArray, List.set_cons_zero, List.set_cons_succ]); (refine take_op (i := 1) (v := ?_) rfl (by kernel_rfl) (by kernel_rfl) (by kernel_rfl) (fun _ _ _ h => h) (by rfl) ?_ hHeld ?_; rotate_left; (· (intro wS hSw; (try dsimp only at hSw); go_simp; first | done | with_reducible rfl)); simp only [Act.put, List.setIfInBounds_toArray, List.set_cons_zero, List.set_cons_succ]); (refine take_op (i := 2) (v := ?_) rfl (by kernel_rfl) (by kernel_rfl) (by kernel_rfl) (fun _ _ _ h => h) (by rfl) ?_ hHeld ?_; rotate_left; (· (intro wS hSw; (try dsimp only at hSw); go_simp; first | done | with_reducible rfl)); simp only [Act.put, List.setIfInBounds_toArray, List.set_cons_zero, List.set_cons_succ]); (refine take_op (i := 3) (v := ?_) rfl (by kernel_rfl) (by kernel_rfl) (by kernel_rfl) (fun _ _ _ h => h) (by rfl) ?_ hHeld ?_; rotate_left; (· (intro wS hSw; (try dsimp only at hSw); go_simp; first | done | with_reducible rfl)); simp only [Act.put, List.setIfInBounds_toArray, List.set_cons_zero, List.set_cons_succ]); (refine take_op (i := 4) (v := ?_) rfl (by kernel_rfl) (by kernel_rfl) (by kernel_rfl) (fun _ _ _ h => h) (by rfl) ?_ hHeld ?_; rotate_left; (· (intro wS hSw; (try dsimp only at hSw); go_simp; first | done | with_reducible rfl)); simp only [Act.put, List.setIfInBounds_toArray, List.set_cons_zero, List.set_cons_succ]); (refine take_op (i := 5) (v := ?_) rfl (by kernel_rfl) (by kernel_rfl) (by kernel_rfl) (fun _ _ _ h => h) (by rfl) ?_ hHeld ?_; rotate_left; (· (intro wS hSw; (try dsimp only at hSw); go_simp; first | done | with_reducible rfl)); simp only [Act.put, List.setIfInBounds_toArray, List.set_cons_zero, List.set_cons_succ]); (refine take_op (i := 6) (v := ?_) rfl (by kernel_rfl) (by kernel_rfl) (by kernel_rfl) (fun _ _ _ h => h) (by rfl) ?_ hHeld ?_; rotate_left; (· (intro wS hSw; (try dsimp only at hSw); go_simp; first | done | with_reducible rfl)); simp only [Act.put, List.setIfInBounds_toArray, List.set_cons_zero, List.set_cons_succ]); (refine take_op (i := 7) (v := ?_) rfl (by kernel_rfl) (by kernel_rfl) (by kernel_rfl) (fun _ _ _ h => h) (by rfl) ?_ hHeld ?_; rotate_left; (· (intro wS hSw; (try dsimp only at hSw); go_simp; first | done | with_reducible rfl)); simp only [Act.put, List.setIfInBounds_toArray, List.set_cons_zero, List.set_cons_succ]); (refine take_op (i := 8) (v := ?_) rfl (by kernel_rfl) (by kernel_rfl) (by kernel_rfl) (fun _ _ _ h => h) (by rfl) ?_ hHeld ?_; rotate_left; (· (intro wS hSw; (try dsimp only at hSw); go_simp; first | done | with_reducible rfl)); simp only [Act.put, List.setIfInBounds_toArray, List.set_cons_zero, List.set_cons_succ]); (refine take_op (i := 9) (v := ?_) rfl (by kernel_rfl) (by kernel_rfl) (by kernel_rfl) (fun _ _ _ h => h) (by rfl) ?_ hHeld ?_; rotate_left; (· (intro wS hSw; (try dsimp only at hSw); go_simp; first | done | with_reducible rfl)); simp only [Act.put, List.setIfInBounds_toArray, List.set_cons_zero, List.set_cons_succ]); (refine take_op (i := 10) (v := ?_) rfl (by kernel_rfl) (by kernel_rfl) (by kernel_rfl) (fun _ _ _ h => h) (by rfl) ?_ hHeld ?_; rotate_left; (· (intro wS hSw; (try dsimp only at hSw); go_simp; first | done | with_reducible rfl)); simp only [Act.put, List.setIfInBounds_toArray, List.set_cons_zero, List.set_cons_succ]); (refine take_op (i := 11) (v := ?_) rfl (by kernel_rfl) (by kernel_rfl) (by kernel_rfl) (fun _ _ _ h => h) (by rfl) ?_ hHeld ?_; rotate_left; (· (intro wS hSw; (try dsimp only at hSw); go_simp; first | done | with_reducible rfl)); simp only [Act.put, List.setIfInBounds_toArray, List.set_cons_zero, List.set_cons_succ])
        (refine wpAnyH_done (by kernel_rfl) ?_ _)
        replace P := P.keep (Below.refl _ _).drew
        replace KT := Lib.hid (KT.out.trans (Turn.of_below (F := F) (Below.refl _ _).drew) (fun i hi => .inl hi))
        clear hHeld
        go_wp2_with fail
        go_ret
        exact ⟨rfl, F, ⟨⟨gs, P.D, Hgs.out⟩, Hok.out⟩, fun i hi => .inl hi, KT.out⟩
      · have hnl : nn ≤ f.by_.length := by omega
        obtain rfl : R = (0, updBy Prod.fst s (fun f => (f.1, f.2.1.take nn, nn)) l) := by rw [← HR.out]; simp [cutC, hfd2, show ¬ f.by_.length < nn by omega]
        have hbd : decide ((f.by_.length : Int) < (nn : Int)) = false := decide_eq_false hbig
        have hnc : nn ≤ c1 := Nat.le_trans hnl hc1
        go_upto_region 4 with fail
        (refine wp_region_held_drew (S := (SDk2 B3 #[.int .i64 (nn : Int)] f.e #[.slice A1 f.by_.length c1, .int .i64 (f.su : Int)] B3 #[.int .i64 (nn : Int)])) (by kernel_rfl) ?_ (fun hHeld => ?_); (· exact HS0 _ (Blk.keep h3 (Below.refl _ _).drew) (Blk.keep eb (Below.refl _ _).drew)))
        (refine take_op (i := 0) (v := ?_) rfl (by kernel_rfl) (by kernel_rfl) (by kernel_rfl) (fun _ _ _ h => h) (by rfl) ?_ hHeld ?_; rotate_left; (· (intro wS hSw; (try dsimp only at hSw); go_simp; first | done | with_reducible rfl)); simp only [Act.put, List.setIfInBounds_toArray, List.set_cons_zero, List.set_cons_succ]); (refine take_op (i := 1) (v := ?_) rfl (by kernel_rfl) (by kernel_rfl) (by kernel_rfl) (fun _ _ _ h => h) (by rfl) ?_ hHeld ?_; rotate_left; (· (intro wS hSw; (try dsimp only at hSw); go_simp; first | done | with_reducible rfl)); simp only [Act.put, List.setIfInBounds_toArray, List.set_cons_zero, List.set_cons_succ]); (refine take_op (i := 2) (v := ?_) rfl (by kernel_rfl) (by kernel_rfl) (by kernel_rfl) (fun _ _ _ h => h) (by rfl) ?_ hHeld ?_; rotate_left; (· (intro wS hSw; (try dsimp only at hSw); go_simp; first | done | with_reducible rfl)); simp only [Act.put, List.setIfInBounds_toArray, List.set_cons_zero, List.set_cons_succ]); (refine take_op (i := 3) (v := ?_) rfl (by kernel_rfl) (by kernel_rfl) (by kernel_rfl) (fun _ _ _ h => h) (by rfl) ?_ hHeld ?_; rotate_left; (· (intro wS hSw; (try dsimp only at hSw); go_simp; first | done | with_reducible rfl)); simp only [Act.put, List.setIfInBounds_toArray, List.set_cons_zero, List.set_cons_succ]); (refine take_op (i := 4) (v := ?_) rfl (by kernel_rfl) (by kernel_rfl) (by kernel_rfl) (fun _ _ _ h => h) (by rfl) ?_ hHeld ?_; rotate_left; (· (intro wS hSw; (try dsimp only at hSw); go_simp; first | done | with_reducible rfl)); simp only [Act.put, List.setIfInBounds_toArray, List.set_cons_zero, List.set_cons_succ]); (refine take_op (i := 5) (v := ?_) rfl (by kernel_rfl) (by kernel_rfl) (by kernel_rfl) (fun _ _ _ h => h) (by rfl) ?_ hHeld ?_; rotate_left; (· (intro wS hSw; (try dsimp only at hSw); go_simp; first | done | with_reducible rfl)); simp only [Act.put, List.setIfInBounds_toArray, List.set_cons_zero, List.set_cons_succ]); (refine take_op (i := 6) (v := ?_) rfl (by kernel_rfl) (by kernel_rfl) (by kernel_rfl) (fun _ _ _ h => h) (by rfl) ?_ hHeld ?_; rotate_left; (· (intro wS hSw; (try dsimp only at hSw); go_simp; first | done | with_reducible rfl)); simp only [Act.put, List.setIfInBounds_toArray, List.set_cons_zero, List.set_cons_succ]); (refine take_op (i := 7) (v := ?_) rfl (by kernel_rfl) (by kernel_rfl) (by kernel_rfl) (fun _ _ _ h => h) (by rfl) ?_ hHeld ?_; rotate_left; (· (intro wS hSw; (try dsimp only at hSw); go_simp; first | done | with_reducible rfl)); simp only [Act.put, List.setIfInBounds_toArray, List.set_cons_zero, List.set_cons_succ]); (refine take_op (i := 8) (v := ?_) rfl (by kernel_rfl) (by kernel_rfl) (by kernel_rfl) (fun _ _ _ h => h) (by rfl) ?_ hHeld ?_; rotate_left; (· (intro wS hSw; (try dsimp only at hSw); go_simp; first | done | with_reducible rfl)); simp only [Act.put, List.setIfInBounds_toArray, List.set_cons_zero, List.set_cons_succ]); (refine take_op (i := 9) (v := ?_) rfl (by kernel_rfl) (by kernel_rfl) (by kernel_rfl) (fun _ _ _ h => h) (by rfl) ?_ hHeld ?_; rotate_left; (· (intro wS hSw; (try dsimp only at hSw); go_simp; first | done | with_reducible rfl)); simp only [Act.put, List.setIfInBounds_toArray, List.set_cons_zero, List.set_cons_succ]); (refine take_op (i := 10) (v := ?_) rfl (by kernel_rfl) (by kernel_rfl) (by kernel_rfl) (fun _ _ _ h => h) (by rfl) ?_ hHeld ?_; rotate_left; (· (intro wS hSw; (try dsimp only at hSw); go_simp; first | done | with_reducible rfl)); simp only [Act.put, List.setIfInBounds_toArray, List.set_cons_zero, List.set_cons_succ]); (refine take_op (i := 11) (v := ?_) rfl (by kernel_rfl) (by kernel_rfl) (by kernel_rfl) (fun _ _ _ h => h) (by rfl) ?_ hHeld ?_; rotate_left; (· (intro wS hSw; (try dsimp only at hSw); go_simp; first | done | with_reducible rfl)); simp only [Act.put, List.setIfInBounds_toArray, List.set_cons_zero, List.set_cons_succ])
        (refine wpAnyH_done (by kernel_rfl) ?_ _)
        replace P := P.keep (Below.refl _ _).drew
        replace h3 := Blk.keep h3 (Below.refl _ _).drew
        replace KT := Lib.hid (KT.out.trans (Turn.of_below (F := F) (Below.refl _ _).drew) (fun i hi => .inl hi))
        clear hHeld HS0 hfa eb
        revert P h3 KT
        generalize World.drew _ = w4
        intro P h3 KT
        go_upto_region 6 with fail
        replace P := P.keep (Below.refl _ _).drew
        replace h3 := Blk.keep h3 (Below.refl _ _).drew
        replace KT := Lib.hid (KT.out.trans (Turn.of_below (F := F) (Below.refl _ _).drew) (fun i hi => .inl hi))
        have eb := (P.D.fl f hf).1
        rw [hv1] at eb
        have ec := eb.cell
        (refine wp_region_held_drew (S := (S1 B3 #[.int .i64 (nn : Int)])) (by kernel_rfl) ?_ (fun hHeld => ?_); (· exact h3.cell))
        (refine take_op (i := 0) (v := ?_) rfl (by kernel_rfl) (by kernel_rfl) (by kernel_rfl) (fun _ _ _ h => h) (by rfl) ?_ hHeld ?_; rotate_left; (· (intro wS hSw; (try dsimp only at hSw); go_simp; first | done | with_reducible rfl)); simp only [Act.put, List.setIfInBounds_toArray, List.set_cons_zero, List.set_cons_succ]); (refine take_op (i := 1) (v := ?_) rfl (by kernel_rfl) (by kernel_rfl) (by kernel_rfl) (fun _ _ _ h => h) (by rfl) ?_ hHeld ?_; rotate_left; (· (intro wS hSw; (try dsimp only at hSw); go_simp; first | done | with_reducible rfl)); simp only [Act.put, List.setIfInBounds_toArray, List.set_cons_zero, List.set_cons_succ]); (refine take_op (i := 2) (v := ?_) rfl (by kernel_rfl) (by kernel_rfl) (by kernel_rfl) (fun _ _ _ h => h) (by rfl) ?_ hHeld ?_; rotate_left; (· (intro wS hSw; (try dsimp only at hSw); go_simp; first | done | with_reducible rfl)); simp only [Act.put, List.setIfInBounds_toArray, List.set_cons_zero, List.set_cons_succ]); (refine take_op (i := 3) (v := ?_) rfl (by kernel_rfl) (by kernel_rfl) (by kernel_rfl) (fun _ _ _ h => h) (by rfl) ?_ hHeld ?_; rotate_left; (· (intro wS hSw; (try dsimp only at hSw); go_simp; first | done | with_reducible rfl)); simp only [Act.put, List.setIfInBounds_toArray, List.set_cons_zero, List.set_cons_succ]); (refine take_op (i := 4) (v := ?_) rfl (by kernel_rfl) (by kernel_rfl) (by kernel_rfl) (fun _ _ _ h => h) (by rfl) ?_ hHeld ?_; rotate_left; (· (intro wS hSw; (try dsimp only at hSw); go_simp; first | done | with_reducible rfl)); simp only [Act.put, List.setIfInBounds_toArray, List.set_cons_zero, List.set_cons_succ]); (refine take_op (i := 6) (v := ?_) rfl (by kernel_rfl) (by kernel_rfl) (by kernel_rfl) (fun _ _ _ h => h) (by rfl) ?_ hHeld ?_; rotate_left; (· (intro wS hSw; (try dsimp only at hSw); go_simp; first | done | with_reducible rfl)); simp only [Act.put, List.setIfInBounds_toArray, List.set_cons_zero, List.set_cons_succ]); (refine take_op (i := 7) (v := ?_) rfl (by kernel_rfl) (by kernel_rfl) (by kernel_rfl) (fun _ _ _ h => h) (by rfl) ?_ hHeld ?_; rotate_left; (· (intro wS hSw; (try dsimp only at hSw); go_simp; first | done | with_reducible rfl)); simp only [Act.put, List.setIfInBounds_toArray, List.set_cons_zero, List.set_cons_succ]); (refine take_op (i := 9) (v := ?_) rfl (by kernel_rfl) (by kernel_rfl) (by kernel_rfl) (fun _ _ _ h => h) (by rfl) ?_ hHeld ?_; rotate_left; (· (intro wS hSw; (try dsimp only at hSw); go_simp; first | done | with_reducible rfl)); simp only [Act.put, List.setIfInBounds_toArray, List.set_cons_zero, List.set_cons_succ])
        revert P h3 KT eb ec hHeld
        generalize World.drew _ = wd
        intro P h3 KT eb ec hHeld
        (refine call_op (i := 5) rfl (by kernel_rfl) (by rfl) (fun K hK => ?_); go_simp; skip; refine hK.out _ _ hHeld (fun hHeld2 => ?_); clear hK K hHeld; have hHeld := hHeld2; clear hHeld2; (try simp only [Act.put, List.setIfInBounds_toArray, List.set_cons_zero, List.set_cons_succ]))
        (refine take_op (i := 8) (v := ?_) rfl (by kernel_rfl) (by kernel_rfl) (by kernel_rfl) (fun _ _ _ h => h) (by rfl) ?_ hHeld ?_; rotate_left; (· (intro wS hSw; (try dsimp only at hSw); go_simp; first | done | with_reducible rfl)); simp only [Act.put, List.setIfInBounds_toArray, List.set_cons_zero, List.set_cons_succ]); (refine take_op (i := 10) (v := ?_) rfl (by kernel_rfl) (by kernel_rfl) (by kernel_rfl) (fun _ _ _ h => h) (by rfl) ?_ hHeld ?_; rotate_left; (· (intro wS hSw; (try dsimp only at hSw); go_simp; first | done | with_reducible rfl)); simp only [Act.put, List.setIfInBounds_toArray, List.set_cons_zero, List.set_cons_succ]); (refine take_op (i := 11) (v := ?_) rfl (by kernel_rfl) (by kernel_rfl) (by kernel_rfl) (fun _ _ _ h => h) (by rfl) ?_ hHeld ?_; rotate_left; (· (intro wS hSw; (try dsimp only at hSw); go_simp; first | done | with_reducible rfl)); simp only [Act.put, List.setIfInBounds_toArray, List.set_cons_zero, List.set_cons_succ])
        have ef := eb.frozen
        obtain ⟨g1, g2⟩ := cut_file P.D hf hv1 hnl (Nat.le_refl nn) (Nat.le_trans hnl hc1)
        have T1 := Turn.setCell eb 0 (.slice A1 nn nn)
        have h31 := T1.blk h3 (fun e2 => blk_ne h3 eb (by decide) e2)
        have eb1 := eb.set_ 0 (.slice A1 nn nn)
        have ef1 := eb1.frozen
        have ec1 := eb1.cell
        simp only [List.setIfInBounds_toArray, List.set_cons_zero, List.set_cons_succ] at eb1 ec1
        have hf2 : { f with by_ := f.by_.take nn, v := .slice A1 nn nn } ∈ updBy GF.nm f.nm (fun _ => { f with by_ := f.by_.take nn, v := .slice A1 nn nn }) gs := by
          unfold updBy
          exact List.mem_map.2 ⟨f, hf, by simp⟩
        obtain ⟨g3, g4⟩ := sure_file g1 hf2 nn
        have G3 := Lib.hid g3
        have G4 := Lib.hid ((KT.out.trans g2 (fun i hi => .inl hi)).trans g4 (fun i hi => .inl hi))
        have HU := Lib.hid (show (updBy GF.nm f.nm (fun _ => { f with by_ := f.by_.take nn, v := .slice A1 nn nn, su := nn }) (updBy GF.nm f.nm (fun _ => { f with by_ := f.by_.take nn, v := .slice A1 nn nn }) gs)).map GF.d = updBy Prod.fst s (fun f => (f.1, f.2.1.take nn, nn)) l by
          rw [updBy_upd (nm := GF.nm) (u := fun _ => { f with by_ := f.by_.take nn, v := .slice A1 nn nn }) (u' := fun _ => { f with by_ := f.by_.take nn, v := .slice A1 nn nn, su := nn }) (fun x hx e => rfl), updBy_map (nm' := Prod.fst) (d := GF.d) (fun _ => rfl) f.nm (u' := fun f => (f.1, f.2.1.take nn, nn)) (fun x hx e => by rw [asc_one P.D.asc hx hf e]), Hgs.out, hfn])
        clear g1 g2 g3 g4 hf2
        (refine call_op (i := 12) rfl (by kernel_rfl) (by rfl) (fun K hK => ?_); go_simp; skip; refine hK.out _ _ h31.cell (fun hHeld2 => ?_); clear hK K hHeld; have hHeld := hHeld2; clear hHeld2; (try simp only [Act.put, List.setIfInBounds_toArray, List.set_cons_zero, List.set_cons_succ]))
        (refine take_op (i := 13) (v := ?_) rfl (by kernel_rfl) (by kernel_rfl) (by kernel_rfl) (fun _ _ _ h => h) (by rfl) ?_ hHeld ?_; rotate_left; (· (intro wS hSw; (try dsimp only at hSw); go_simp; first | done | with_reducible rfl)); simp only [Act.put, List.setIfInBounds_toArray, List.set_cons_zero, List.set_cons_succ]); (refine take_op (i := 14) (v := ?_) rfl (by kernel_rfl) (by kernel_rfl) (by kernel_rfl) (fun _ _ _ h => h) (by rfl) ?_ hHeld ?_; rotate_left; (· (intro wS hSw; (try dsimp only at hSw); go_simp; first | done | with_reducible rfl)); simp only [Act.put, List.setIfInBounds_toArray, List.set_cons_zero, List.set_cons_succ])
        have h32 := (Turn.setCell eb1 1 (.int .i64 (nn : Int))).blk h31 (fun e2 => blk_ne h31 eb1 (by decide) e2)
        clear ec
        (refine call_op (i := 15) rfl (by kernel_rfl) (by rfl) (fun K hK => ?_); go_simp; skip; refine hK.out _ _ h32.cell (fun hHeld2 => ?_); clear hK K hHeld; have hHeld := hHeld2; clear hHeld2; (try simp only [Act.put, List.setIfInBounds_toArray, List.set_cons_zero, List.set_cons_succ]))
        (refine wpAnyH_done (by kernel_rfl) ?_ _)
        clear hHeld h32 eb1 ec1 ef1 h31 T1 ef
        go_wp2_with fail
        go_ret
        exact ⟨rfl, F, ⟨⟨_, G3.out, HU.out⟩, Hok.out⟩, fun i hi => .inl hi, G4.out⟩
  · obtain rfl : R = (8, l) := by
      have hfd2 := Hfd.out
      rw [hff] at hfd2
      rw [← HR.out]
      simp [cutC, hfd2]
    go_wp2_with fail
    go_ret
    exact ⟨rfl, F, ⟨⟨gs, P.D, Hgs.out⟩, Hok.out⟩, fun i hi => .inl hi, KT.out⟩
end Go.Proofs.Ytpdfbkkhmfnnjaa
