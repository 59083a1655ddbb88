/- disk: the closure of Move. -/
import Derived.Test.YtpdfbkkhmfnnjaaDkCl
import Derived.WalkKit
import Derived.WalkSpells
import Derived.WalkLawsBesides
import Derived.Deep.RegionHeld3
import Derived.Deep.DrawnRows
import Derived.Deep.DeepCutAuto
import Derived.Deep.DeepFit
import Derived.Lib.Hide
import Derived.BigQuiet
import Derived.Deep.QuietTactic
import Derived.Deep.RegionHeld3
namespace Go.Proofs.Ytpdfbkkhmfnnjaa
open Go.RowKit
set_option linter.unusedVariables false
set_option linter.unusedSimpArgs false
set_option maxRecDepth 20000
attribute [local go_sem ↓] Go.wp_at_zero Go.wp_at_succ
attribute [local go_sem] World.cell?_alloc_some frozen_alloc_some
open Go.Maps

theorem ins_pairwise {α : Type} {nm : α → NmT} {R : α → α → Prop} {f : α} : ∀ {l : List α}, l.Pairwise R → (∀ x ∈ l, R x f ∧ R f x) → (insBy nm f l).Pairwise R
  | [], _, _ => by simp [insBy]
  | u :: r, h1, h2 => by
    obtain ⟨h3, h4⟩ := List.pairwise_cons.1 h1
    unfold insBy
    split
    · exact List.pairwise_cons.2 ⟨fun x hx => (h2 x hx).2, h1⟩
    · refine List.pairwise_cons.2 ⟨fun x hx => ?_, ins_pairwise h4 fun x hx => h2 x (by simp [hx])⟩
      rcases mem_insBy.1 hx with rfl | hx
      · exact (h2 u (by simp)).1
      · exact h3 x hx
/-- A file comes in the place of what has its name. -/
theorem DiskG.put2 {w w' : World} {F : Nat → Prop} {g b : Nat} {gs : List GF} {room fuse : Int} {down : Bool} (h : DiskG w F g b gs room fuse down) {f : GF} (k : Turn (fun i => i = b) w w') (hm : FmAt w' b ((insBy GF.nm f (outBy GF.nm f.nm gs)).map GF.fl)) (hf : FileAt w' F f)
    (he : ∀ x ∈ gs, x.nm ≠ f.nm → x.e ≠ f.e) (hv : ∀ x ∈ gs, x.nm ≠ f.nm → ∀ r, x.v.ownBlock = some r → f.v.ownBlock ≠ some r) : DiskG w' F g b (insBy GF.nm f (outBy GF.nm f.nm gs)) room fuse down := by
  refine ⟨k.blk h.hd fun e => h.b_ne h.hd e.symm, hm, fun x hx => ?_, ?_, ?_, h.Fg, h.Fb, fun i hi => Nat.lt_of_lt_of_le (h.lt i hi) k.size, insBy_asc (outBy_asc h.asc _) fun x hx => (mem_outBy.1 hx).2⟩
  · rcases mem_insBy.1 hx with rfl | hx
    · exact hf
    · have hx := (mem_outBy.1 hx).1
      exact (h.fl x hx).same (k.block _ (h.lt _ (h.fl x hx).2.2.1) fun e => h.b_ne (h.fl x hx).1 e.symm) fun r hr => k.block _ (h.row_lt hx hr) fun e => h.row_b hx (by rw [hr, e])
  · exact ins_pairwise (List.Pairwise.filter _ h.es) fun x hx => by
      obtain ⟨h1, h2⟩ := mem_outBy.1 hx
      exact ⟨he x h1 h2, Ne.symm (he x h1 h2)⟩
  · exact ins_pairwise (R := fun x y : GF => ∀ r, x.v.ownBlock = some r → y.v.ownBlock ≠ some r) (List.Pairwise.filter _ h.rows) fun x hx => by
      obtain ⟨h1, h2⟩ := mem_outBy.1 hx
      exact ⟨hv x h1 h2, fun r hr hr2 => hv x h1 h2 r hr2 hr⟩
theorem ins2_fl {gs : List GF} (ha : AscBy GF.nm gs) (f : GF) :
    (∀ u, u ∈ (insBy GF.nm f (outBy GF.nm f.nm gs)).map GF.fl ↔ u = f.fl ∨ u ∈ outF (gs.map GF.fl) f.nm) ∧ Nms1 ((insBy GF.nm f (outBy GF.nm f.nm gs)).map GF.fl) ∧ ((insBy GF.nm f (outBy GF.nm f.nm gs)).map GF.fl).length = (outF (gs.map GF.fl) f.nm).length + 1 := by
  have hs : outF (gs.map GF.fl) f.nm = (outBy GF.nm f.nm gs).map GF.fl := by
    unfold outF outBy
    rw [List.filter_map]
    rfl
  rw [hs]
  refine ⟨fun u => ?_, ?_, ?_⟩
  · simp only [List.mem_map, mem_insBy]
    constructor
    · rintro ⟨x, rfl | hx, rfl⟩
      · exact .inl rfl
      · exact .inr ⟨x, hx, rfl⟩
    · rintro (rfl | ⟨x, hx, rfl⟩)
      · exact ⟨_, .inl rfl, rfl⟩
      · exact ⟨x, .inr hx, rfl⟩
  · exact List.pairwise_map.2 (List.Pairwise.imp (fun {a b} (hab : a.nm < b.nm) (e2 : a.nm = b.nm) => nm_irrefl b.nm (by rw [e2] at hab; exact hab)) (insBy_asc (outBy_asc ha _) fun x hx => (mem_outBy.1 hx).2))
  · rw [List.length_map, insBy_length, List.length_map]
set_option maxHeartbeats 4000000 in
theorem move1_any (F : Nat → Prop) (g b B1 B2 B3 : Nat) (d : DkT) (s : NmT) (t : NmT) (w : World) (h : DiskAt w F g b d) (h1 : Blk w B1 56 #[.pointer (some ⟨g, 0, none⟩)]) (h2 : Blk w B2 9 #[sV s]) (h3 : Blk w B3 9 #[sV t]) (hs : wfN s) (ht : wfN t) :
    Calls Try.prog 83 #[.pointer (some ⟨B1, 0, none⟩), .pointer (some ⟨B2, 0, none⟩), .pointer (some ⟨B3, 0, none⟩)] w (Deeds w F g b (.int .i64 (moveC d.l s t).1) { d with l := (moveC d.l s t).2 }) := by
  have hok := moveC_ok (s := s) h.2 t
  have hlen := h.2.len
  have hle : totD d.l ≤ 1073741824 := by have h1 := h.2.tot; have h2 := h.2.room1; omega
  have hsure := h.2.sure
  obtain ⟨⟨gs, hg, hgs⟩, ok⟩ := h
  have hfd : findBy Prod.fst s d.l = (findBy GF.nm s gs).map GF.d := by rw [← hgs]; exact findBy_map (fun _ => rfl) s gs
  have hl : gs.length = d.l.length := by rw [← hgs, List.length_map]
  obtain ⟨l, room, fuse, down⟩ := d
  simp only at hg hgs hfd hle hlen hok hl hsure ⊢
  have P : Cl2 w F g b gs room fuse down B1 B2 s := ⟨hg, h1, h2⟩
  have hlk := fun W (h : DiskG W F g b gs room fuse down) => h.mp.look_ok (s := s) hs
  have hlooks := look_gs hg s
  obtain ⟨v, hv⟩ : ∃ v, entV (gs.map GF.fl) s = v := ⟨_, rfl⟩
  obtain ⟨k, hk⟩ : ∃ k, hasF (gs.map GF.fl) s = k := ⟨_, rfl⟩
  rw [hv, hk] at hlooks
  simp only [hv, hk] at hlk
  have HL := Lib.hid hlooks
  have Hlk := Lib.hid hlk
  have Hgs := Lib.hid hgs
  have Hok := Lib.hid hok
  have HS := Lib.hid hsure
  have KT := Lib.hid (Turn.refl F w)
  obtain ⟨R, hR⟩ : ∃ R, moveC l s t = R := ⟨_, rfl⟩
  rw [hR] at Hok ⊢
  have HR := Lib.hid hR
  have Hfd := Lib.hid hfd
  clear hv hk hlk hlooks hg hgs ok h1 h2 hok hR hfd hsure
  go_enter Try.func83, Try.ntmps83
  go_upto_region 1 with fail
  replace P := P.keep (Below.refl _ _).drew
  replace h3 := Blk.keep h3 (Below.refl _ _).drew
  replace KT := Lib.hid (KT.out.trans (Turn.of_below (F := F) (Below.refl _ _).drew) (fun i hi => .inl hi))
  have hlook := Hlk.out _ P.D
  (refine wp_region_held_drew (S := (SDk g #[.map (some b), .int .i64 room, .int .i64 fuse, .bool down] B1 #[.pointer (some ⟨g, 0, none⟩)] B2 #[sV s] b s v k)) (by kernel_rfl) ?_ (fun hHeld => ?_); (· exact ⟨P.D.hd.cell, P.b1.cell, P.b2.cell, hlook⟩))
  (refine take_op (i := 0) (v := ?_) rfl (by kernel_rfl) (by kernel_rfl) (by kernel_rfl) (fun _ _ _ h => h) (by rfl) ?_ hHeld ?_; rotate_left; (· (intro wS hSw; (try dsimp only at hSw); go_simp; first | done | with_reducible rfl)); simp only [Act.put, List.setIfInBounds_toArray, List.set_cons_zero, List.set_cons_succ]); (refine take_op (i := 1) (v := ?_) rfl (by kernel_rfl) (by kernel_rfl) (by kernel_rfl) (fun _ _ _ h => h) (by rfl) ?_ hHeld ?_; rotate_left; (· (intro wS hSw; (try dsimp only at hSw); go_simp; first | done | with_reducible rfl)); simp only [Act.put, List.setIfInBounds_toArray, List.set_cons_zero, List.set_cons_succ]); (refine take_op (i := 2) (v := ?_) rfl (by kernel_rfl) (by kernel_rfl) (by kernel_rfl) (fun _ _ _ h => h) (by rfl) ?_ hHeld ?_; rotate_left; (· (intro wS hSw; (try dsimp only at hSw); go_simp; first | done | with_reducible rfl)); simp only [Act.put, List.setIfInBounds_toArray, List.set_cons_zero, List.set_cons_succ]); (refine take_op (i := 3) (v := ?_) rfl (by kernel_rfl) (by kernel_rfl) (by kernel_rfl) (fun _ _ _ h => h) (by rfl) ?_ hHeld ?_; rotate_left; (· (intro wS hSw; (try dsimp only at hSw); go_simp; first | done | with_reducible rfl)); simp only [Act.put, List.setIfInBounds_toArray, List.set_cons_zero, List.set_cons_succ]); (refine take_op (i := 4) (v := ?_) rfl (by kernel_rfl) (by kernel_rfl) (by kernel_rfl) (fun _ _ _ h => h) (by rfl) ?_ hHeld ?_; rotate_left; (· (intro wS hSw; (try dsimp only at hSw); go_simp; first | done | with_reducible rfl)); simp only [Act.put, List.setIfInBounds_toArray, List.set_cons_zero, List.set_cons_succ]); (refine take_op (i := 5) (v := ?_) rfl (by kernel_rfl) (by kernel_rfl) (by kernel_rfl) (fun _ _ _ h => h) (by rfl) ?_ hHeld ?_; rotate_left; (· (intro wS hSw; (try dsimp only at hSw); go_simp; first | done | with_reducible rfl)); simp only [Act.put, List.setIfInBounds_toArray, List.set_cons_zero, List.set_cons_succ]); (refine take_op (i := 6) (v := ?_) rfl (by kernel_rfl) (by kernel_rfl) (by kernel_rfl) (fun _ _ _ h => h) (by rfl) ?_ hHeld ?_; rotate_left; (· (intro wS hSw; (try dsimp only at hSw); go_simp; first | done | with_reducible rfl)); simp only [Act.put, List.setIfInBounds_toArray, List.set_cons_zero, List.set_cons_succ]); (refine take_op (i := 7) (v := ?_) rfl (by kernel_rfl) (by kernel_rfl) (by kernel_rfl) (fun _ _ _ h => h) (by rfl) ?_ hHeld ?_; rotate_left; (· (intro wS hSw; (try dsimp only at hSw); go_simp; first | done | with_reducible rfl)); simp only [Act.put, List.setIfInBounds_toArray, List.set_cons_zero, List.set_cons_succ]); (refine take_op (i := 8) (v := ?_) rfl (by kernel_rfl) (by kernel_rfl) (by kernel_rfl) (fun _ _ _ h => h) (by rfl) ?_ hHeld ?_; rotate_left; (· (intro wS hSw; (try dsimp only at hSw); go_simp; first | done | with_reducible rfl)); simp only [Act.put, List.setIfInBounds_toArray, List.set_cons_zero, List.set_cons_succ]); (refine take_op (i := 9) (v := ?_) rfl (by kernel_rfl) (by kernel_rfl) (by kernel_rfl) (fun _ _ _ h => h) (by rfl) ?_ hHeld ?_; rotate_left; (· (intro wS hSw; (try dsimp only at hSw); go_simp; first | done | with_reducible rfl)); simp only [Act.put, List.setIfInBounds_toArray, List.set_cons_zero, List.set_cons_succ]); (refine take_op (i := 10) (v := ?_) rfl (by kernel_rfl) (by kernel_rfl) (by kernel_rfl) (fun _ _ _ h => h) (by rfl) ?_ hHeld ?_; rotate_left; (· (intro wS hSw; (try dsimp only at hSw); go_simp; first | done | with_reducible rfl)); simp only [Act.put, List.setIfInBounds_toArray, List.set_cons_zero, List.set_cons_succ])
  (refine wpAnyH_done (by kernel_rfl) ?_ _)
  clear hHeld hlook Hlk
  revert P h3 KT
  generalize World.drew _ = wd
  intro P h3 KT
  have hin := fun W => isname_any t W ht
  rcases HL.out with ⟨f, hf, hfn, hff, rfl, rfl⟩ | ⟨hff, rfl, rfl⟩
  · have hfd2 : findBy Prod.fst s l = some f.d := by
      have := Hfd.out
      rw [hff] at this
      exact this
    have c3 := h3.cell
    by_cases hn : isNm t = true
    · rw [hn] at hin
      obtain rfl : R = (0, insBy Prod.fst (t, f.by_, f.by_.length) (outBy Prod.fst t (outBy Prod.fst s l))) := by rw [← HR.out]; simp [moveC, hfd2, hn]
      go_upto_region 6 with (go_at_call 77; (with_reducible refine (hin _).mono ?_); rintro e w2 ⟨rfl, hb2⟩; replace P := P.keep hb2; replace h3 := Blk.keep h3 hb2; replace KT := Lib.hid (KT.out.trans (Turn.of_below (F := F) hb2) (fun i hi => .inl hi)); clear c3 hb2)
      clear hin hff HL hfd2
      replace P := P.keep (Below.refl _ _).drew
      replace h3 := Blk.keep h3 (Below.refl _ _).drew
      replace KT := Lib.hid (KT.out.trans (Turn.of_below (F := F) (Below.refl _ _).drew) (fun i hi => .inl hi))
      (refine wp_region_held_drew (S := (SDk2 g #[.map (some b), .int .i64 room, .int .i64 fuse, .bool down] B1 #[.pointer (some ⟨g, 0, none⟩)] B2 #[sV s])) (by kernel_rfl) ?_ (fun hHeld => ?_); (· exact ⟨P.D.hd.cell, P.b1.cell, P.b2.cell⟩))
      (refine take_op (i := 0) (v := ?_) rfl (by kernel_rfl) (by kernel_rfl) (by kernel_rfl) (fun _ _ _ h => h) (by rfl) ?_ hHeld ?_; rotate_left; (· (intro wS hSw; (try dsimp only at hSw); go_simp; first | done | with_reducible rfl)); simp only [Act.put, List.setIfInBounds_toArray, List.set_cons_zero, List.set_cons_succ]); (refine take_op (i := 1) (v := ?_) rfl (by kernel_rfl) (by kernel_rfl) (by kernel_rfl) (fun _ _ _ h => h) (by rfl) ?_ hHeld ?_; rotate_left; (· (intro wS hSw; (try dsimp only at hSw); go_simp; first | done | with_reducible rfl)); simp only [Act.put, List.setIfInBounds_toArray, List.set_cons_zero, List.set_cons_succ]); (refine take_op (i := 2) (v := ?_) rfl (by kernel_rfl) (by kernel_rfl) (by kernel_rfl) (fun _ _ _ h => h) (by rfl) ?_ hHeld ?_; rotate_left; (· (intro wS hSw; (try dsimp only at hSw); go_simp; first | done | with_reducible rfl)); simp only [Act.put, List.setIfInBounds_toArray, List.set_cons_zero, List.set_cons_succ]); (refine take_op (i := 3) (v := ?_) rfl (by kernel_rfl) (by kernel_rfl) (by kernel_rfl) (fun _ _ _ h => h) (by rfl) ?_ hHeld ?_; rotate_left; (· (intro wS hSw; (try dsimp only at hSw); go_simp; first | done | with_reducible rfl)); simp only [Act.put, List.setIfInBounds_toArray, List.set_cons_zero, List.set_cons_succ]); (refine take_op (i := 4) (v := ?_) rfl (by kernel_rfl) (by kernel_rfl) (by kernel_rfl) (fun _ _ _ h => h) (by rfl) ?_ hHeld ?_; rotate_left; (· (intro wS hSw; (try dsimp only at hSw); go_simp; first | done | with_reducible rfl)); simp only [Act.put, List.setIfInBounds_toArray, List.set_cons_zero, List.set_cons_succ])
      obtain ⟨w5, hrun, hm5, hg5⟩ := P.D.mp.drop hs 0
      obtain ⟨es, cl, hmp⟩ := P.D.mp.is_map
      have T5 : Turn (fun i => i = b) _ w5 := Turn.of_grown hg5 fun k e => by injection e with e; exact e.symm
      have D5 := P.D.del s T5 hm5
      have b15 := blk_map hmp hg5 P.b1
      have b25 := blk_map hmp hg5 P.b2
      have b35 := blk_map hmp hg5 h3
      have f5 : FileAt w5 F f := (P.D.fl f hf).same (T5.block _ (P.D.lt _ (P.D.fl f hf).2.2.1) fun e => P.D.b_ne (P.D.fl f hf).1 e.symm) fun r hr => T5.block _ (P.D.row_lt hf hr) fun e => P.D.row_b hf (by rw [hr, e])
      have KT5 := Lib.hid (KT.out.trans (T5.mono (F' := F) fun k _ e => by rw [e]; exact P.D.Fb) (fun i hi => .inl hi))
      have E5 := Lib.hid (show (∀ x ∈ outBy GF.nm s gs, x.nm ≠ t → x.e ≠ f.e) ∧ ∀ x ∈ outBy GF.nm s gs, x.nm ≠ t → ∀ r, x.v.ownBlock = some r → f.v.ownBlock ≠ some r from
        ⟨fun x hx _ => P.D.e_ne (mem_outBy.1 hx).1 hf (by rw [hfn]; exact (mem_outBy.1 hx).2), fun x hx _ => P.D.row_ne2 (mem_outBy.1 hx).1 hf (by rw [hfn]; exact (mem_outBy.1 hx).2)⟩)
      clear hm5 hg5 hmp T5
      (refine call_op (i := 5) rfl (by kernel_rfl) (by rfl) (fun K hK => ?_); go_simp; skip; refine hK.out _ _ ⟨D5.hd.cell, b15.cell, b25.cell⟩ (fun hHeld2 => ?_); clear hK K hHeld; have hHeld := hHeld2; clear hHeld2; (try simp only [Act.put, List.setIfInBounds_toArray, List.set_cons_zero, List.set_cons_succ]))
      (refine wpAnyH_done (by kernel_rfl) ?_ _)
      clear hHeld hrun P h3 KT
      have P : Cl2 w5 F g b (outBy GF.nm s gs) room fuse down B1 B2 s := ⟨D5, b15, b25⟩
      clear D5 b15 b25
      go_upto_region 7 with fail
      replace P := P.keep (Below.refl _ _).drew
      replace b35 := Blk.keep b35 (Below.refl _ _).drew
      replace f5 := f5.same (w' := w5.drew) rfl (fun r hr => rfl)
      replace KT5 := Lib.hid (KT5.out.trans (Turn.of_below (F := F) (Below.refl _ _).drew) (fun i hi => .inl hi))
      (refine wp_region_held_drew (S := (SDk2 g #[.map (some b), .int .i64 room, .int .i64 fuse, .bool down] B1 #[.pointer (some ⟨g, 0, none⟩)] B3 #[sV t])) (by kernel_rfl) ?_ (fun hHeld => ?_); (· exact ⟨P.D.hd.cell, P.b1.cell, b35.cell⟩))
      (refine take_op (i := 0) (v := ?_) rfl (by kernel_rfl) (by kernel_rfl) (by kernel_rfl) (fun _ _ _ h => h) (by rfl) ?_ hHeld ?_; rotate_left; (· (intro wS hSw; (try dsimp only at hSw); go_simp; first | done | with_reducible rfl)); simp only [Act.put, List.setIfInBounds_toArray, List.set_cons_zero, List.set_cons_succ]); (refine take_op (i := 1) (v := ?_) rfl (by kernel_rfl) (by kernel_rfl) (by kernel_rfl) (fun _ _ _ h => h) (by rfl) ?_ hHeld ?_; rotate_left; (· (intro wS hSw; (try dsimp only at hSw); go_simp; first | done | with_reducible rfl)); simp only [Act.put, List.setIfInBounds_toArray, List.set_cons_zero, List.set_cons_succ]); (refine take_op (i := 2) (v := ?_) rfl (by kernel_rfl) (by kernel_rfl) (by kernel_rfl) (fun _ _ _ h => h) (by rfl) ?_ hHeld ?_; rotate_left; (· (intro wS hSw; (try dsimp only at hSw); go_simp; first | done | with_reducible rfl)); simp only [Act.put, List.setIfInBounds_toArray, List.set_cons_zero, List.set_cons_succ]); (refine take_op (i := 3) (v := ?_) rfl (by kernel_rfl) (by kernel_rfl) (by kernel_rfl) (fun _ _ _ h => h) (by rfl) ?_ hHeld ?_; rotate_left; (· (intro wS hSw; (try dsimp only at hSw); go_simp; first | done | with_reducible rfl)); simp only [Act.put, List.setIfInBounds_toArray, List.set_cons_zero, List.set_cons_succ]); (refine take_op (i := 4) (v := ?_) rfl (by kernel_rfl) (by kernel_rfl) (by kernel_rfl) (fun _ _ _ h => h) (by rfl) ?_ hHeld ?_; rotate_left; (· (intro wS hSw; (try dsimp only at hSw); go_simp; first | done | with_reducible rfl)); simp only [Act.put, List.setIfInBounds_toArray, List.set_cons_zero, List.set_cons_succ]); (refine take_op (i := 5) (v := ?_) rfl (by kernel_rfl) (by kernel_rfl) (by kernel_rfl) (fun _ _ _ h => h) (by rfl) ?_ hHeld ?_; rotate_left; (· (intro wS hSw; (try dsimp only at hSw); go_simp; first | done | with_reducible rfl)); simp only [Act.put, List.setIfInBounds_toArray, List.set_cons_zero, List.set_cons_succ])
      revert KT5 P b35 f5 hHeld
      generalize World.drew _ = wd
      intro P b35 f5 KT5 hHeld
      obtain ⟨f1, hf1⟩ : ∃ f1 : GF, f1 = { f with nm := t } := ⟨_, rfl⟩
      have hn1 : f1.nm = t := by rw [hf1]
      have he1 : f1.e = f.e := by rw [hf1]
      have hv1 : f1.v = f.v := by rw [hf1]
      obtain ⟨hy1, hy2, hy3⟩ := ins2_fl P.D.asc f1
      rw [hn1] at hy1 hy2 hy3
      have hlg : (outBy GF.nm s gs).length ≤ gs.length := List.length_filter_le _ _
      obtain ⟨w6, hrun, hm6, hg6⟩ := P.D.mp.store (t := (t, f.e)) (by rw [List.length_map]; unfold maxLen; omega) ht (fun u => by rw [hy1 u]; simp only [GF.fl, hn1, he1]) hy2 hy3
      obtain ⟨es, cl, hmp⟩ := P.D.mp.is_map
      have T6 : Turn (fun i => i = b) wd w6 := Turn.of_grown hg6 fun k e => by injection e with e; exact e.symm
      have f6 : FileAt w6 F f1 := by
        have h6 : FileAt w6 F f := f5.same (T6.block _ (P.D.lt _ f5.2.2.1) fun e => P.D.b_ne f5.1 e.symm) fun r hr => T6.block _ (P.D.lt _ (f5.2.2.2 r hr)) fun e => by
          obtain ⟨cur, hc⟩ := f5.2.1.typed hr
          rw [e] at hc
          have := hmp.symm.trans hc
          cases this
        rw [hf1]
        exact h6
      have D6 := P.D.put2 (f := f1) T6 (by rw [hn1]; exact hm6) f6 (by rw [hn1, he1]; exact E5.out.1) (by rw [hn1, hv1]; exact E5.out.2)
      have b16 := blk_map hmp hg6 P.b1
      have b36 := blk_map hmp hg6 b35
      have KT6 := Lib.hid (KT5.out.trans (T6.mono (F' := F) fun k _ e => by rw [e]; exact P.D.Fb) (fun i hi => .inl hi))
      simp only at hrun
      clear hy1 hy2 hy3 hm6 hg6 hmp T6 E5 f5
      (refine call_op (i := 6) rfl (by kernel_rfl) (by rfl) (fun K hK => ?_); go_simp; skip; refine hK.out _ _ ⟨D6.hd.cell, b16.cell, b36.cell⟩ (fun hHeld2 => ?_); clear hK K hHeld; have hHeld := hHeld2; clear hHeld2; (try simp only [Act.put, List.setIfInBounds_toArray, List.set_cons_zero, List.set_cons_succ]))
      (refine wpAnyH_done (by kernel_rfl) ?_ _)
      clear hHeld hrun b16 b36 b35 KT5 P
      obtain ⟨g1, g2⟩ := sure_file D6 (f := f1) (mem_insBy.2 (.inl rfl)) f.by_.length
      have hw6 : w6.setCell ⟨f1.e, 1, none⟩ (.int .i64 (f.by_.length : Int)) = w6.setCell ⟨f.e, 1, none⟩ (.int .i64 (f.by_.length : Int)) := by rw [he1]
      rw [hw6] at g1 g2
      have G1 := Lib.hid g1
      have G2 := Lib.hid (KT6.out.trans g2 (fun i hi => .inl hi))
      have HU := Lib.hid (show (updBy GF.nm f1.nm (fun _ => { f1 with su := f.by_.length }) (insBy GF.nm f1 (outBy GF.nm f1.nm (outBy GF.nm s gs)))).map GF.d = insBy Prod.fst (t, f.by_, f.by_.length) (outBy Prod.fst t (outBy Prod.fst s l)) by
        rw [upd_ins (s := f1.nm) (f' := { f1 with su := f.by_.length }) (findBy_none.2 fun x hx => (mem_outBy.1 hx).2) rfl rfl, insBy_map (nm' := Prod.fst) (d := GF.d) (fun _ => rfl), outBy_map (nm' := Prod.fst) (d := GF.d) (fun _ => rfl), outBy_map (nm' := Prod.fst) (d := GF.d) (fun _ => rfl), Hgs.out, hn1]
        simp only [GF.d, hf1])
      have hfb := f6.1
      rw [he1, hv1] at hfb
      obtain ⟨A1, c1, hv2, _, _⟩ := f6.2.1.form
      have hby1 : f1.by_ = f.by_ := by rw [hf1]
      rw [hby1, hv1] at hv2
      rw [hv2] at hfb
      have ec := hfb.cell
      have ef := hfb.frozen
      clear hw6 g1 g2 D6 f6 hv1 hv2 he1 hn1 hf1 hfb hby1 hf
      go_wp2_with fail
      go_ret
      exact ⟨rfl, F, ⟨⟨_, G1.out, HU.out⟩, Hok.out⟩, fun i hi => .inl hi, G2.out⟩
    · have hn' : isNm t = false := by simpa using hn
      rw [hn'] at hin
      obtain rfl : R = (1, l) := by rw [← HR.out]; simp [moveC, hfd2, hn']
      go_wp2_with (go_at_call 77; (with_reducible refine (hin _).mono ?_); rintro e w2 ⟨rfl, hb2⟩; replace P := P.keep hb2; replace KT := Lib.hid (KT.out.trans (Turn.of_below (F := F) hb2) (fun i hi => .inl hi)))
      go_ret
      exact ⟨rfl, F, ⟨⟨gs, P.D, Hgs.out⟩, Hok.out⟩, fun i hi => .inl hi, KT.out⟩
  · obtain rfl : R = (8, l) := by
      have hfd2 := Hfd.out
      rw [hff] at hfd2
      rw [← HR.out]
      simp [moveC, hfd2]
    go_wp2_with fail
    go_ret
    exact ⟨rfl, F, ⟨⟨gs, P.D, Hgs.out⟩, Hok.out⟩, fun i hi => .inl hi, KT.out⟩
end Go.Proofs.Ytpdfbkkhmfnnjaa
