/- The document's entries: Seq. The document's entries: Deps. The walk of the law IndexPlays. -/
import Derived.Test.YtpdfbkkhmfnnjaaIndexPlaysQ0
import Derived.Test.YtpdfbkkhmfnnjaaIndexPlaysQ1
import Derived.Test.YtpdfbkkhmfnnjaaIndexMeetsQ9
import Derived.WalkKit
import Derived.WalkSpells
import Derived.WalkLawsBesides
import Derived.Deep.RegionHeld3
import Derived.Deep.DrawnRows
import Derived.Deep.DeepCutAuto
import Derived.Deep.DeepFit
import Derived.Lib.Hide
import Derived.BigQuiet
import Derived.Deep.QuietTactic
import Derived.Deep.CutBlock
namespace Go.Proofs.Ytpdfbkkhmfnnjaa
open Go.RowKit
set_option linter.unusedVariables false
set_option linter.unusedSimpArgs false
set_option maxRecDepth 20000
attribute [local go_sem ↓] Go.wp_at_zero Go.wp_at_succ
attribute [local go_sem] World.cell?_alloc_some frozen_alloc_some
attribute [local go_sem ↓ high] id_neq_run id_eql_run

def Ent9 (w : World) (b p : Nat) (e : EntT) : Prop := ∀ (j : Nat) (v : Value), (eL e)[j]? = some v → w.cell? ⟨b, p + j, none⟩ = some v
theorem Ent9.keep {w w' : World} {b p : Nat} {e : EntT} (h : Ent9 w b p e) (hb : Below w.heap.size w w') : Ent9 w' b p e := fun j v hj => cell_keep hb (h j v hj)
abbrev SR17 (h : Nat) (cs : Array Value) (g : Nat) (ds : Array Value) (b p : Nat) (r n k cl cq : Int) (ky vl : ByteArray) (rv sq : Int) (wx : World) : Prop :=
  (∀ i, wx.cell? ⟨h, i, none⟩ = cs[i]?) ∧ (∀ i, wx.cell? ⟨g, i, none⟩ = ds[i]?) ∧ wx.cell? ⟨b, p, none⟩ = some (.int .i64 r) ∧ wx.cell? ⟨b, p + 1, none⟩ = some (.int .i64 n) ∧ wx.cell? ⟨b, p + 2, none⟩ = some (.int .i64 k) ∧ wx.cell? ⟨b, p + 3, none⟩ = some (.int .i64 cl) ∧ wx.cell? ⟨b, p + 4, none⟩ = some (.int .i64 cq) ∧ wx.cell? ⟨b, p + 5, none⟩ = some (.string ky) ∧ wx.cell? ⟨b, p + 6, none⟩ = some (.string vl) ∧ wx.cell? ⟨b, p + 7, none⟩ = some (.int .i64 rv) ∧ wx.cell? ⟨b, p + 8, none⟩ = some (.int .i64 sq)
theorem SR17.of {h g b p : Nat} {cs ds : Array Value} {th tg : TypeId} {e : EntT} {wx : World} (h1 : Blk wx h th cs) (h2 : Blk wx g tg ds) (h3 : Ent9 wx b p e) : SR17 h cs g ds b p e.i.1 e.i.2 e.c.kind e.c.client e.c.seq e.c.key e.c.val e.c.rev e.s wx :=
  ⟨h1.cell, h2.cell, h3 0 _ rfl, h3 1 _ rfl, h3 2 _ rfl, h3 3 _ rfl, h3 4 _ rfl, h3 5 _ rfl, h3 6 _ rfl, h3 7 _ rfl, h3 8 _ rfl⟩
structure RS17 (w : World) (c : CmdT) (b1 b2 : Int) (W : World) : Prop where
  hb : Below w.heap.size w W
  C : Blk W w.heap.size 24 #[.int .i64 c.kind, .int .i64 c.client, .int .i64 c.seq, .string c.key, .string c.val, .int .i64 c.rev]
  B : Blk W (w.heap.size + 1) 26 #[.int .i64 b1, .int .i64 b2]
theorem RS17.keep {w W W' : World} {c : CmdT} {b1 b2 : Int} (h : RS17 w c b1 b2 W) (hb : Below W.heap.size W W') : RS17 w c b1 b2 W' := ⟨below_call h.hb hb h.hb.size, h.C.keep hb, h.B.keep hb⟩
set_option maxHeartbeats 8000000 in
theorem seq17_any (A : Option Addr) (m cp : Nat) (y : List EntT) (c : CmdT) (b1 b2 : Int) (w : World) (h : EntsAt w A m y) (hc : c.Ok) (hm1 : m ≤ 1000000) (hs : ∀ e ∈ y, e.s ≤ 1152921504606846976) : Calls Try.prog 19 #[.slice A m cp, c.v, .agg #[.int .i64 b1, .int .i64 b2]] w (Gives w (.int .i64 (seqE y c (b1, b2)))) := by
  have H := Lib.hid h
  have Hm := Lib.hid h.1
  have Hs := Lib.hid hs
  have Hc := Lib.hid hc
  clear h hs hc
  have hmx : ∀ k, 0 ≤ maxE 0 ((y.take k).filter (meetE c (b1, b2))) ∧ maxE 0 ((y.take k).filter (meetE c (b1, b2))) ≤ 1152921504606846976 := fun k => by
    obtain ⟨h1, _, h3⟩ := maxE_spec ((y.take k).filter (meetE c (b1, b2))) 0
    refine ⟨h1, ?_⟩
    rcases h3 with h3 | ⟨e, he, h3⟩
    · omega
    · rw [h3]; exact Hs.out e (List.mem_of_mem_take (List.mem_filter.1 he).1)
  have Hmx := Lib.hid hmx
  clear hmx
  unfold CmdT.v
  go_enter Try.func19, Try.ntmps19
  go_wp2_with fail
  go_loopw [7, 8] (fun s7 s8 wr => ∃ (k : Nat) (mx : Int), k ≤ m ∧ s8 = .int .i64 k ∧ s7 = .int .i64 mx ∧ Hid (mx = maxE 0 ((y.take k).filter (meetE c (b1, b2)))) ∧ RS17 w c b1 b2 wr) (fun _ s8 _ => m - (intOf s8).toNat)
  case atStart => exact ⟨0, 0, by omega, rfl, rfl, Lib.hid (by simp [maxE]), ⟨by ((repeat' first | with_reducible exact Below.refl _ _ | with_reducible assumption | with_reducible refine Below.alloc ?_ ?_ _ | with_reducible refine Below.setCell ?_ ?_ _ | with_reducible apply Below.drew | with_reducible apply below_drewN | with_reducible refine below_call ?_ (by with_reducible assumption) ?_) <;> (first | omega | (simp; done) | (simp; omega) | (simp at *; omega))), (Blk.new _ _ _).alloc _, blk_newAt (by simp)⟩⟩
  case round =>
    obtain ⟨k, mx, hk, rfl, rfl, hmx, R⟩ := hrel
    by_cases hlt : k < m
    · obtain ⟨e, b, o, e1, hok, rfl, hce⟩ := (H.out.keep R.hb).at_ hlt
      have hE : Ent9 wr b (o + k * 9) e := hce
      have k0 : (0 : Int) ≤ (k : Int) := by omega
      have k1 : (k : Int) < (m : Int) := by omega
      have hst := take_meet17 e1 c (b1, b2)
      have hE1 := Lib.hid e1
      clear hce e1
      obtain ⟨⟨r, nn⟩, ⟨ck, cl, cq, ky, vl, rv⟩, sq⟩ := e
      have hdm := fun W => dmeet_any c.kind c.client c.seq c.key c.val c.rev ck cl cq ky vl rv W Hc.out.key hok.2.1.key
      by_cases hq : (r = b1 ∧ nn = b2)
      · obtain ⟨rfl, rfl⟩ := hq
        rw [if_neg (by simp [meetE]), List.append_nil] at hst
        have Hst := Lib.hid hst
        clear hst hdm
        go_upto_region 5 with fail
        replace R := R.keep (Below.refl _ _).drew
        replace hE := hE.keep (Below.refl _ _).drew
        (refine wp_region_held_drew (S := (SR17 w.heap.size #[.int .i64 c.kind, .int .i64 c.client, .int .i64 c.seq, .string c.key, .string c.val, .int .i64 c.rev] (w.heap.size + 1) #[.int .i64 r, .int .i64 nn] b (o + k * 9) r nn ck cl cq ky vl rv sq)) (by kernel_rfl) ?_ (fun hHeld => ?_); (· exact SR17.of R.C R.B hE))
        (refine take_op (i := 0) (v := ?_) rfl (by kernel_rfl) (by kernel_rfl) (by kernel_rfl) (fun _ _ _ h => h) (by rfl) ?_ hHeld ?_; rotate_left; (· (intro wS hSw; (try dsimp only at hSw); go_simp; first | done | with_reducible rfl)); simp only [Act.put, List.setIfInBounds_toArray, List.set_cons_zero, List.set_cons_succ]); (refine take_op (i := 1) (v := ?_) rfl (by kernel_rfl) (by kernel_rfl) (by kernel_rfl) (fun _ _ _ h => h) (by rfl) ?_ hHeld ?_; rotate_left; (· (intro wS hSw; (try dsimp only at hSw); go_simp; first | done | with_reducible rfl)); simp only [Act.put, List.setIfInBounds_toArray, List.set_cons_zero, List.set_cons_succ]); (refine take_op (i := 2) (v := ?_) rfl (by kernel_rfl) (by kernel_rfl) (by kernel_rfl) (fun _ _ _ h => h) (by rfl) ?_ hHeld ?_; rotate_left; (· (intro wS hSw; (try dsimp only at hSw); go_simp; first | done | with_reducible rfl)); simp only [Act.put, List.setIfInBounds_toArray, List.set_cons_zero, List.set_cons_succ]); (refine take_op (i := 3) (v := ?_) rfl (by kernel_rfl) (by kernel_rfl) (by kernel_rfl) (fun _ _ _ h => h) (by rfl) ?_ hHeld ?_; rotate_left; (· (intro wS hSw; (try dsimp only at hSw); go_simp; first | done | with_reducible rfl)); simp only [Act.put, List.setIfInBounds_toArray, List.set_cons_zero, List.set_cons_succ]); (refine take_op (i := 4) (v := ?_) rfl (by kernel_rfl) (by kernel_rfl) (by kernel_rfl) (fun _ _ _ h => h) (by rfl) ?_ hHeld ?_; rotate_left; (· (intro wS hSw; (try dsimp only at hSw); go_simp; first | done | with_reducible rfl)); simp only [Act.put, List.setIfInBounds_toArray, List.set_cons_zero, List.set_cons_succ]); (refine take_op (i := 5) (v := ?_) rfl (by kernel_rfl) (by kernel_rfl) (by kernel_rfl) (fun _ _ _ h => h) (by rfl) ?_ hHeld ?_; rotate_left; (· (intro wS hSw; (try dsimp only at hSw); go_simp; first | done | with_reducible rfl)); simp only [Act.put, List.setIfInBounds_toArray, List.set_cons_zero, List.set_cons_succ]); (refine take_op (i := 6) (v := ?_) rfl (by kernel_rfl) (by kernel_rfl) (by kernel_rfl) (fun _ _ _ h => h) (by rfl) ?_ hHeld ?_; rotate_left; (· (intro wS hSw; (try dsimp only at hSw); go_simp; first | done | with_reducible rfl)); simp only [Act.put, List.setIfInBounds_toArray, List.set_cons_zero, List.set_cons_succ]); (refine take_op (i := 7) (v := ?_) rfl (by kernel_rfl) (by kernel_rfl) (by kernel_rfl) (fun _ _ _ h => h) (by rfl) ?_ hHeld ?_; rotate_left; (· (intro wS hSw; (try dsimp only at hSw); go_simp; first | done | with_reducible rfl)); simp only [Act.put, List.setIfInBounds_toArray, List.set_cons_zero, List.set_cons_succ])
        (refine skip_op (i := 8) rfl (by kernel_rfl) (by kernel_rfl) (by kernel_rfl) (fun _ _ _ h => h) (by rfl) hHeld ?_; simp only [Act.put, List.setIfInBounds_toArray, List.set_cons_zero, List.set_cons_succ]); (refine skip_op (i := 9) rfl (by kernel_rfl) (by kernel_rfl) (by kernel_rfl) (fun _ _ _ h => h) (by rfl) hHeld ?_; simp only [Act.put, List.setIfInBounds_toArray, List.set_cons_zero, List.set_cons_succ]); (refine skip_op (i := 10) rfl (by kernel_rfl) (by kernel_rfl) (by kernel_rfl) (fun _ _ _ h => h) (by rfl) hHeld ?_; simp only [Act.put, List.setIfInBounds_toArray, List.set_cons_zero, List.set_cons_succ]); (refine skip_op (i := 11) rfl (by kernel_rfl) (by kernel_rfl) (by kernel_rfl) (fun _ _ _ h => h) (by rfl) hHeld ?_; simp only [Act.put, List.setIfInBounds_toArray, List.set_cons_zero, List.set_cons_succ]); (refine skip_op (i := 12) rfl (by kernel_rfl) (by kernel_rfl) (by kernel_rfl) (fun _ _ _ h => h) (by rfl) hHeld ?_; simp only [Act.put, List.setIfInBounds_toArray, List.set_cons_zero, List.set_cons_succ]); (refine skip_op (i := 13) rfl (by kernel_rfl) (by kernel_rfl) (by kernel_rfl) (fun _ _ _ h => h) (by rfl) hHeld ?_; simp only [Act.put, List.setIfInBounds_toArray, List.set_cons_zero, List.set_cons_succ]); (refine skip_op (i := 14) rfl (by kernel_rfl) (by kernel_rfl) (by kernel_rfl) (fun _ _ _ h => h) (by rfl) hHeld ?_; simp only [Act.put, List.setIfInBounds_toArray, List.set_cons_zero, List.set_cons_succ])
        (refine take_op (i := 15) (v := ?_) rfl (by kernel_rfl) (by kernel_rfl) (by kernel_rfl) (fun _ _ _ h => h) (by rfl) ?_ hHeld ?_; rotate_left; (· (intro wS hSw; (try dsimp only at hSw); go_simp; first | done | with_reducible rfl)); simp only [Act.put, List.setIfInBounds_toArray, List.set_cons_zero, List.set_cons_succ]); (refine take_op (i := 16) (v := ?_) rfl (by kernel_rfl) (by kernel_rfl) (by kernel_rfl) (fun _ _ _ h => h) (by rfl) ?_ hHeld ?_; rotate_left; (· (intro wS hSw; (try dsimp only at hSw); go_simp; first | done | with_reducible rfl)); simp only [Act.put, List.setIfInBounds_toArray, List.set_cons_zero, List.set_cons_succ])
        (refine skip_op (i := 17) rfl (by kernel_rfl) (by kernel_rfl) (by kernel_rfl) (fun _ _ _ h => h) (by rfl) hHeld ?_; simp only [Act.put, List.setIfInBounds_toArray, List.set_cons_zero, List.set_cons_succ]); (refine skip_op (i := 18) rfl (by kernel_rfl) (by kernel_rfl) (by kernel_rfl) (fun _ _ _ h => h) (by rfl) hHeld ?_; simp only [Act.put, List.setIfInBounds_toArray, List.set_cons_zero, List.set_cons_succ]); (refine skip_op (i := 19) rfl (by kernel_rfl) (by kernel_rfl) (by kernel_rfl) (fun _ _ _ h => h) (by rfl) hHeld ?_; simp only [Act.put, List.setIfInBounds_toArray, List.set_cons_zero, List.set_cons_succ]); (refine skip_op (i := 20) rfl (by kernel_rfl) (by kernel_rfl) (by kernel_rfl) (fun _ _ _ h => h) (by rfl) hHeld ?_; simp only [Act.put, List.setIfInBounds_toArray, List.set_cons_zero, List.set_cons_succ]); (refine skip_op (i := 21) rfl (by kernel_rfl) (by kernel_rfl) (by kernel_rfl) (fun _ _ _ h => h) (by rfl) hHeld ?_; simp only [Act.put, List.setIfInBounds_toArray, List.set_cons_zero, List.set_cons_succ]); (refine skip_op (i := 22) rfl (by kernel_rfl) (by kernel_rfl) (by kernel_rfl) (fun _ _ _ h => h) (by rfl) hHeld ?_; simp only [Act.put, List.setIfInBounds_toArray, List.set_cons_zero, List.set_cons_succ]); (refine skip_op (i := 23) rfl (by kernel_rfl) (by kernel_rfl) (by kernel_rfl) (fun _ _ _ h => h) (by rfl) hHeld ?_; simp only [Act.put, List.setIfInBounds_toArray, List.set_cons_zero, List.set_cons_succ])
        (refine take_op (i := 24) (v := ?_) rfl (by kernel_rfl) (by kernel_rfl) (by kernel_rfl) (fun _ _ _ h => h) (by rfl) ?_ hHeld ?_; rotate_left; (· (intro wS hSw; (try dsimp only at hSw); go_simp; first | done | with_reducible rfl)); simp only [Act.put, List.setIfInBounds_toArray, List.set_cons_zero, List.set_cons_succ])
        (refine wpAnyH_done (by kernel_rfl) ?_ _)
        clear hHeld hE
        revert R
        generalize wr.drew = wd
        intro R
        go_wp2_with fail
        go_roundw
        case rel => exact ⟨k + 1, mx, by omega, by go_num, rfl, by rw [Hst.out]; exact hmx, R⟩
        case measure => simp [intOf]; omega
      · have hneq : (r == b1 && nn == b2) = false := by simpa using hq
        obtain ⟨M, hM⟩ : ∃ M, cmeet c.kind c.client c.key ck cl ky = M := ⟨_, rfl⟩
        rw [hM] at hdm
        have hme : meetE c (b1, b2) ⟨(r, nn), ⟨ck, cl, cq, ky, vl, rv⟩, sq⟩ = M := by
          have hne : (r, nn) ≠ (b1, b2) := fun h => hq (by simpa using h)
          simp [meetE, hne, hM]
        rw [hme] at hst
        clear hM hme
        have hsq := Hs.out _ (List.mem_of_getElem? hE1.out)
        simp only at hsq
        have hm0 := Hmx.out k
        rw [← hmx.out] at hm0
        cases M
        · rw [if_neg (by simp), List.append_nil] at hst
          have Hst := Lib.hid hst
          clear hst
          go_upto_region 5 with fail
          replace R := R.keep (Below.refl _ _).drew
          replace hE := hE.keep (Below.refl _ _).drew
          (refine wp_region_held_drew (S := (SR17 w.heap.size #[.int .i64 c.kind, .int .i64 c.client, .int .i64 c.seq, .string c.key, .string c.val, .int .i64 c.rev] (w.heap.size + 1) #[.int .i64 b1, .int .i64 b2] b (o + k * 9) r nn ck cl cq ky vl rv sq)) (by kernel_rfl) ?_ (fun hHeld => ?_); (· exact SR17.of R.C R.B hE))
          (refine take_op (i := 0) (v := ?_) rfl (by kernel_rfl) (by kernel_rfl) (by kernel_rfl) (fun _ _ _ h => h) (by rfl) ?_ hHeld ?_; rotate_left; (· (intro wS hSw; (try dsimp only at hSw); go_simp; first | done | with_reducible rfl)); simp only [Act.put, List.setIfInBounds_toArray, List.set_cons_zero, List.set_cons_succ]); (refine take_op (i := 1) (v := ?_) rfl (by kernel_rfl) (by kernel_rfl) (by kernel_rfl) (fun _ _ _ h => h) (by rfl) ?_ hHeld ?_; rotate_left; (· (intro wS hSw; (try dsimp only at hSw); go_simp; first | done | with_reducible rfl)); simp only [Act.put, List.setIfInBounds_toArray, List.set_cons_zero, List.set_cons_succ]); (refine take_op (i := 2) (v := ?_) rfl (by kernel_rfl) (by kernel_rfl) (by kernel_rfl) (fun _ _ _ h => h) (by rfl) ?_ hHeld ?_; rotate_left; (· (intro wS hSw; (try dsimp only at hSw); go_simp; first | done | with_reducible rfl)); simp only [Act.put, List.setIfInBounds_toArray, List.set_cons_zero, List.set_cons_succ]); (refine take_op (i := 3) (v := ?_) rfl (by kernel_rfl) (by kernel_rfl) (by kernel_rfl) (fun _ _ _ h => h) (by rfl) ?_ hHeld ?_; rotate_left; (· (intro wS hSw; (try dsimp only at hSw); go_simp; first | done | with_reducible rfl)); simp only [Act.put, List.setIfInBounds_toArray, List.set_cons_zero, List.set_cons_succ]); (refine take_op (i := 4) (v := ?_) rfl (by kernel_rfl) (by kernel_rfl) (by kernel_rfl) (fun _ _ _ h => h) (by rfl) ?_ hHeld ?_; rotate_left; (· (intro wS hSw; (try dsimp only at hSw); go_simp; first | done | with_reducible rfl)); simp only [Act.put, List.setIfInBounds_toArray, List.set_cons_zero, List.set_cons_succ]); (refine take_op (i := 5) (v := ?_) rfl (by kernel_rfl) (by kernel_rfl) (by kernel_rfl) (fun _ _ _ h => h) (by rfl) ?_ hHeld ?_; rotate_left; (· (intro wS hSw; (try dsimp only at hSw); go_simp; first | done | with_reducible rfl)); simp only [Act.put, List.setIfInBounds_toArray, List.set_cons_zero, List.set_cons_succ])
          (refine take_op (i := 6) (v := .bool true) rfl (by kernel_rfl) (by kernel_rfl) (by kernel_rfl) (fun _ _ _ h => h) (by rfl) ?_ hHeld ?_; (· (intro wS hSw; clear hSw; go_simp)); simp only [Act.put, List.setIfInBounds_toArray, List.set_cons_zero, List.set_cons_succ])
          (refine take_op (i := 7) (v := ?_) rfl (by kernel_rfl) (by kernel_rfl) (by kernel_rfl) (fun _ _ _ h => h) (by rfl) ?_ hHeld ?_; rotate_left; (· (intro wS hSw; (try dsimp only at hSw); go_simp; first | done | with_reducible rfl)); simp only [Act.put, List.setIfInBounds_toArray, List.set_cons_zero, List.set_cons_succ]); (refine take_op (i := 8) (v := ?_) rfl (by kernel_rfl) (by kernel_rfl) (by kernel_rfl) (fun _ _ _ h => h) (by rfl) ?_ hHeld ?_; rotate_left; (· (intro wS hSw; (try dsimp only at hSw); go_simp; first | done | with_reducible rfl)); simp only [Act.put, List.setIfInBounds_toArray, List.set_cons_zero, List.set_cons_succ]); (refine take_op (i := 9) (v := ?_) rfl (by kernel_rfl) (by kernel_rfl) (by kernel_rfl) (fun _ _ _ h => h) (by rfl) ?_ hHeld ?_; rotate_left; (· (intro wS hSw; (try dsimp only at hSw); go_simp; first | done | with_reducible rfl)); simp only [Act.put, List.setIfInBounds_toArray, List.set_cons_zero, List.set_cons_succ]); (refine take_op (i := 10) (v := ?_) rfl (by kernel_rfl) (by kernel_rfl) (by kernel_rfl) (fun _ _ _ h => h) (by rfl) ?_ hHeld ?_; rotate_left; (· (intro wS hSw; (try dsimp only at hSw); go_simp; first | done | with_reducible rfl)); simp only [Act.put, List.setIfInBounds_toArray, List.set_cons_zero, List.set_cons_succ]); (refine take_op (i := 11) (v := ?_) rfl (by kernel_rfl) (by kernel_rfl) (by kernel_rfl) (fun _ _ _ h => h) (by rfl) ?_ hHeld ?_; rotate_left; (· (intro wS hSw; (try dsimp only at hSw); go_simp; first | done | with_reducible rfl)); simp only [Act.put, List.setIfInBounds_toArray, List.set_cons_zero, List.set_cons_succ]); (refine take_op (i := 12) (v := ?_) rfl (by kernel_rfl) (by kernel_rfl) (by kernel_rfl) (fun _ _ _ h => h) (by rfl) ?_ hHeld ?_; rotate_left; (· (intro wS hSw; (try dsimp only at hSw); go_simp; first | done | with_reducible rfl)); simp only [Act.put, List.setIfInBounds_toArray, List.set_cons_zero, List.set_cons_succ]); (refine take_op (i := 13) (v := ?_) rfl (by kernel_rfl) (by kernel_rfl) (by kernel_rfl) (fun _ _ _ h => h) (by rfl) ?_ hHeld ?_; rotate_left; (· (intro wS hSw; (try dsimp only at hSw); go_simp; first | done | with_reducible rfl)); simp only [Act.put, List.setIfInBounds_toArray, List.set_cons_zero, List.set_cons_succ])
          (refine call_op (i := 14) rfl (by kernel_rfl) (by rfl) (fun K hK => ?_); go_simp; (go_at_call 38; (with_reducible refine (hdm _).mono ?_); rintro e9 w9 ⟨rfl, hb9⟩; replace R := R.keep hb9; replace hE := hE.keep hb9; clear hb9); refine hK.out _ _ (SR17.of R.C R.B hE) (fun hHeld2 => ?_); clear hK K hHeld; have hHeld := hHeld2; clear hHeld2; (try simp only [Act.put, List.setIfInBounds_toArray, List.set_cons_zero, List.set_cons_succ]))
          (refine take_op (i := 15) (v := ?_) rfl (by kernel_rfl) (by kernel_rfl) (by kernel_rfl) (fun _ _ _ h => h) (by rfl) ?_ hHeld ?_; rotate_left; (· (intro wS hSw; (try dsimp only at hSw); go_simp; first | done | with_reducible rfl)); simp only [Act.put, List.setIfInBounds_toArray, List.set_cons_zero, List.set_cons_succ]); (refine take_op (i := 16) (v := ?_) rfl (by kernel_rfl) (by kernel_rfl) (by kernel_rfl) (fun _ _ _ h => h) (by rfl) ?_ hHeld ?_; rotate_left; (· (intro wS hSw; (try dsimp only at hSw); go_simp; first | done | with_reducible rfl)); simp only [Act.put, List.setIfInBounds_toArray, List.set_cons_zero, List.set_cons_succ])
          (refine skip_op (i := 17) rfl (by kernel_rfl) (by kernel_rfl) (by kernel_rfl) (fun _ _ _ h => h) (by rfl) hHeld ?_; simp only [Act.put, List.setIfInBounds_toArray, List.set_cons_zero, List.set_cons_succ]); (refine skip_op (i := 18) rfl (by kernel_rfl) (by kernel_rfl) (by kernel_rfl) (fun _ _ _ h => h) (by rfl) hHeld ?_; simp only [Act.put, List.setIfInBounds_toArray, List.set_cons_zero, List.set_cons_succ]); (refine skip_op (i := 19) rfl (by kernel_rfl) (by kernel_rfl) (by kernel_rfl) (fun _ _ _ h => h) (by rfl) hHeld ?_; simp only [Act.put, List.setIfInBounds_toArray, List.set_cons_zero, List.set_cons_succ]); (refine skip_op (i := 20) rfl (by kernel_rfl) (by kernel_rfl) (by kernel_rfl) (fun _ _ _ h => h) (by rfl) hHeld ?_; simp only [Act.put, List.setIfInBounds_toArray, List.set_cons_zero, List.set_cons_succ]); (refine skip_op (i := 21) rfl (by kernel_rfl) (by kernel_rfl) (by kernel_rfl) (fun _ _ _ h => h) (by rfl) hHeld ?_; simp only [Act.put, List.setIfInBounds_toArray, List.set_cons_zero, List.set_cons_succ]); (refine skip_op (i := 22) rfl (by kernel_rfl) (by kernel_rfl) (by kernel_rfl) (fun _ _ _ h => h) (by rfl) hHeld ?_; simp only [Act.put, List.setIfInBounds_toArray, List.set_cons_zero, List.set_cons_succ]); (refine skip_op (i := 23) rfl (by kernel_rfl) (by kernel_rfl) (by kernel_rfl) (fun _ _ _ h => h) (by rfl) hHeld ?_; simp only [Act.put, List.setIfInBounds_toArray, List.set_cons_zero, List.set_cons_succ])
          (refine take_op (i := 24) (v := ?_) rfl (by kernel_rfl) (by kernel_rfl) (by kernel_rfl) (fun _ _ _ h => h) (by rfl) ?_ hHeld ?_; rotate_left; (· (intro wS hSw; (try dsimp only at hSw); go_simp; first | done | with_reducible rfl)); simp only [Act.put, List.setIfInBounds_toArray, List.set_cons_zero, List.set_cons_succ])
          (refine wpAnyH_done (by kernel_rfl) ?_ _)
          clear hHeld hE
          go_wp2_with fail
          go_roundw
          case rel => exact ⟨k + 1, mx, by omega, by go_num, rfl, by rw [Hst.out]; exact hmx, R⟩
          case measure => simp [intOf]; omega
        · rw [if_pos rfl] at hst
          have Hst := Lib.hid hst
          clear hst
          by_cases hgt : mx < sq
          · go_upto_region 5 with fail
            replace R := R.keep (Below.refl _ _).drew
            replace hE := hE.keep (Below.refl _ _).drew
            (refine wp_region_held_drew (S := (SR17 w.heap.size #[.int .i64 c.kind, .int .i64 c.client, .int .i64 c.seq, .string c.key, .string c.val, .int .i64 c.rev] (w.heap.size + 1) #[.int .i64 b1, .int .i64 b2] b (o + k * 9) r nn ck cl cq ky vl rv sq)) (by kernel_rfl) ?_ (fun hHeld => ?_); (· exact SR17.of R.C R.B hE))
            (refine take_op (i := 0) (v := ?_) rfl (by kernel_rfl) (by kernel_rfl) (by kernel_rfl) (fun _ _ _ h => h) (by rfl) ?_ hHeld ?_; rotate_left; (· (intro wS hSw; (try dsimp only at hSw); go_simp; first | done | with_reducible rfl)); simp only [Act.put, List.setIfInBounds_toArray, List.set_cons_zero, List.set_cons_succ]); (refine take_op (i := 1) (v := ?_) rfl (by kernel_rfl) (by kernel_rfl) (by kernel_rfl) (fun _ _ _ h => h) (by rfl) ?_ hHeld ?_; rotate_left; (· (intro wS hSw; (try dsimp only at hSw); go_simp; first | done | with_reducible rfl)); simp only [Act.put, List.setIfInBounds_toArray, List.set_cons_zero, List.set_cons_succ]); (refine take_op (i := 2) (v := ?_) rfl (by kernel_rfl) (by kernel_rfl) (by kernel_rfl) (fun _ _ _ h => h) (by rfl) ?_ hHeld ?_; rotate_left; (· (intro wS hSw; (try dsimp only at hSw); go_simp; first | done | with_reducible rfl)); simp only [Act.put, List.setIfInBounds_toArray, List.set_cons_zero, List.set_cons_succ]); (refine take_op (i := 3) (v := ?_) rfl (by kernel_rfl) (by kernel_rfl) (by kernel_rfl) (fun _ _ _ h => h) (by rfl) ?_ hHeld ?_; rotate_left; (· (intro wS hSw; (try dsimp only at hSw); go_simp; first | done | with_reducible rfl)); simp only [Act.put, List.setIfInBounds_toArray, List.set_cons_zero, List.set_cons_succ]); (refine take_op (i := 4) (v := ?_) rfl (by kernel_rfl) (by kernel_rfl) (by kernel_rfl) (fun _ _ _ h => h) (by rfl) ?_ hHeld ?_; rotate_left; (· (intro wS hSw; (try dsimp only at hSw); go_simp; first | done | with_reducible rfl)); simp only [Act.put, List.setIfInBounds_toArray, List.set_cons_zero, List.set_cons_succ]); (refine take_op (i := 5) (v := ?_) rfl (by kernel_rfl) (by kernel_rfl) (by kernel_rfl) (fun _ _ _ h => h) (by rfl) ?_ hHeld ?_; rotate_left; (· (intro wS hSw; (try dsimp only at hSw); go_simp; first | done | with_reducible rfl)); simp only [Act.put, List.setIfInBounds_toArray, List.set_cons_zero, List.set_cons_succ])
            (refine take_op (i := 6) (v := .bool true) rfl (by kernel_rfl) (by kernel_rfl) (by kernel_rfl) (fun _ _ _ h => h) (by rfl) ?_ hHeld ?_; (· (intro wS hSw; clear hSw; go_simp)); simp only [Act.put, List.setIfInBounds_toArray, List.set_cons_zero, List.set_cons_succ])
            (refine take_op (i := 7) (v := ?_) rfl (by kernel_rfl) (by kernel_rfl) (by kernel_rfl) (fun _ _ _ h => h) (by rfl) ?_ hHeld ?_; rotate_left; (· (intro wS hSw; (try dsimp only at hSw); go_simp; first | done | with_reducible rfl)); simp only [Act.put, List.setIfInBounds_toArray, List.set_cons_zero, List.set_cons_succ]); (refine take_op (i := 8) (v := ?_) rfl (by kernel_rfl) (by kernel_rfl) (by kernel_rfl) (fun _ _ _ h => h) (by rfl) ?_ hHeld ?_; rotate_left; (· (intro wS hSw; (try dsimp only at hSw); go_simp; first | done | with_reducible rfl)); simp only [Act.put, List.setIfInBounds_toArray, List.set_cons_zero, List.set_cons_succ]); (refine take_op (i := 9) (v := ?_) rfl (by kernel_rfl) (by kernel_rfl) (by kernel_rfl) (fun _ _ _ h => h) (by rfl) ?_ hHeld ?_; rotate_left; (· (intro wS hSw; (try dsimp only at hSw); go_simp; first | done | with_reducible rfl)); simp only [Act.put, List.setIfInBounds_toArray, List.set_cons_zero, List.set_cons_succ]); (refine take_op (i := 10) (v := ?_) rfl (by kernel_rfl) (by kernel_rfl) (by kernel_rfl) (fun _ _ _ h => h) (by rfl) ?_ hHeld ?_; rotate_left; (· (intro wS hSw; (try dsimp only at hSw); go_simp; first | done | with_reducible rfl)); simp only [Act.put, List.setIfInBounds_toArray, List.set_cons_zero, List.set_cons_succ]); (refine take_op (i := 11) (v := ?_) rfl (by kernel_rfl) (by kernel_rfl) (by kernel_rfl) (fun _ _ _ h => h) (by rfl) ?_ hHeld ?_; rotate_left; (· (intro wS hSw; (try dsimp only at hSw); go_simp; first | done | with_reducible rfl)); simp only [Act.put, List.setIfInBounds_toArray, List.set_cons_zero, List.set_cons_succ]); (refine take_op (i := 12) (v := ?_) rfl (by kernel_rfl) (by kernel_rfl) (by kernel_rfl) (fun _ _ _ h => h) (by rfl) ?_ hHeld ?_; rotate_left; (· (intro wS hSw; (try dsimp only at hSw); go_simp; first | done | with_reducible rfl)); simp only [Act.put, List.setIfInBounds_toArray, List.set_cons_zero, List.set_cons_succ]); (refine take_op (i := 13) (v := ?_) rfl (by kernel_rfl) (by kernel_rfl) (by kernel_rfl) (fun _ _ _ h => h) (by rfl) ?_ hHeld ?_; rotate_left; (· (intro wS hSw; (try dsimp only at hSw); go_simp; first | done | with_reducible rfl)); simp only [Act.put, List.setIfInBounds_toArray, List.set_cons_zero, List.set_cons_succ])
            (refine call_op (i := 14) rfl (by kernel_rfl) (by rfl) (fun K hK => ?_); go_simp; (go_at_call 38; (with_reducible refine (hdm _).mono ?_); rintro e9 w9 ⟨rfl, hb9⟩; replace R := R.keep hb9; replace hE := hE.keep hb9; clear hb9); refine hK.out _ _ (SR17.of R.C R.B hE) (fun hHeld2 => ?_); clear hK K hHeld; have hHeld := hHeld2; clear hHeld2; (try simp only [Act.put, List.setIfInBounds_toArray, List.set_cons_zero, List.set_cons_succ]))
            (refine take_op (i := 15) (v := ?_) rfl (by kernel_rfl) (by kernel_rfl) (by kernel_rfl) (fun _ _ _ h => h) (by rfl) ?_ hHeld ?_; rotate_left; (· (intro wS hSw; (try dsimp only at hSw); go_simp; first | done | with_reducible rfl)); simp only [Act.put, List.setIfInBounds_toArray, List.set_cons_zero, List.set_cons_succ]); (refine take_op (i := 16) (v := ?_) rfl (by kernel_rfl) (by kernel_rfl) (by kernel_rfl) (fun _ _ _ h => h) (by rfl) ?_ hHeld ?_; rotate_left; (· (intro wS hSw; (try dsimp only at hSw); go_simp; first | done | with_reducible rfl)); simp only [Act.put, List.setIfInBounds_toArray, List.set_cons_zero, List.set_cons_succ]); (refine take_op (i := 17) (v := ?_) rfl (by kernel_rfl) (by kernel_rfl) (by kernel_rfl) (fun _ _ _ h => h) (by rfl) ?_ hHeld ?_; rotate_left; (· (intro wS hSw; (try dsimp only at hSw); go_simp; first | done | with_reducible rfl)); simp only [Act.put, List.setIfInBounds_toArray, List.set_cons_zero, List.set_cons_succ]); (refine take_op (i := 18) (v := ?_) rfl (by kernel_rfl) (by kernel_rfl) (by kernel_rfl) (fun _ _ _ h => h) (by rfl) ?_ hHeld ?_; rotate_left; (· (intro wS hSw; (try dsimp only at hSw); go_simp; first | done | with_reducible rfl)); simp only [Act.put, List.setIfInBounds_toArray, List.set_cons_zero, List.set_cons_succ]); (refine take_op (i := 19) (v := ?_) rfl (by kernel_rfl) (by kernel_rfl) (by kernel_rfl) (fun _ _ _ h => h) (by rfl) ?_ hHeld ?_; rotate_left; (· (intro wS hSw; (try dsimp only at hSw); go_simp; first | done | with_reducible rfl)); simp only [Act.put, List.setIfInBounds_toArray, List.set_cons_zero, List.set_cons_succ]); (refine take_op (i := 20) (v := ?_) rfl (by kernel_rfl) (by kernel_rfl) (by kernel_rfl) (fun _ _ _ h => h) (by rfl) ?_ hHeld ?_; rotate_left; (· (intro wS hSw; (try dsimp only at hSw); go_simp; first | done | with_reducible rfl)); simp only [Act.put, List.setIfInBounds_toArray, List.set_cons_zero, List.set_cons_succ]); (refine take_op (i := 21) (v := ?_) rfl (by kernel_rfl) (by kernel_rfl) (by kernel_rfl) (fun _ _ _ h => h) (by rfl) ?_ hHeld ?_; rotate_left; (· (intro wS hSw; (try dsimp only at hSw); go_simp; first | done | with_reducible rfl)); simp only [Act.put, List.setIfInBounds_toArray, List.set_cons_zero, List.set_cons_succ]); (refine take_op (i := 22) (v := ?_) rfl (by kernel_rfl) (by kernel_rfl) (by kernel_rfl) (fun _ _ _ h => h) (by rfl) ?_ hHeld ?_; rotate_left; (· (intro wS hSw; (try dsimp only at hSw); go_simp; first | done | with_reducible rfl)); simp only [Act.put, List.setIfInBounds_toArray, List.set_cons_zero, List.set_cons_succ]); (refine take_op (i := 23) (v := ?_) rfl (by kernel_rfl) (by kernel_rfl) (by kernel_rfl) (fun _ _ _ h => h) (by rfl) ?_ hHeld ?_; rotate_left; (· (intro wS hSw; (try dsimp only at hSw); go_simp; first | done | with_reducible rfl)); simp only [Act.put, List.setIfInBounds_toArray, List.set_cons_zero, List.set_cons_succ]); (refine take_op (i := 24) (v := ?_) rfl (by kernel_rfl) (by kernel_rfl) (by kernel_rfl) (fun _ _ _ h => h) (by rfl) ?_ hHeld ?_; rotate_left; (· (intro wS hSw; (try dsimp only at hSw); go_simp; first | done | with_reducible rfl)); simp only [Act.put, List.setIfInBounds_toArray, List.set_cons_zero, List.set_cons_succ])
            (refine wpAnyH_done (by kernel_rfl) ?_ _)
            have c8 := hE 8 _ rfl
            simp only at c8
            clear hHeld hE
            go_wp2_with fail
            go_roundw
            case rel => exact ⟨k + 1, sq, by omega, by go_num, rfl, Lib.hid (by rw [Hst.out, maxE_snoc, ← hmx.out]; simp only; omega), R⟩
            case measure => simp [intOf]; omega
          · go_upto_region 5 with fail
            replace R := R.keep (Below.refl _ _).drew
            replace hE := hE.keep (Below.refl _ _).drew
            (refine wp_region_held_drew (S := (SR17 w.heap.size #[.int .i64 c.kind, .int .i64 c.client, .int .i64 c.seq, .string c.key, .string c.val, .int .i64 c.rev] (w.heap.size + 1) #[.int .i64 b1, .int .i64 b2] b (o + k * 9) r nn ck cl cq ky vl rv sq)) (by kernel_rfl) ?_ (fun hHeld => ?_); (· exact SR17.of R.C R.B hE))
            (refine take_op (i := 0) (v := ?_) rfl (by kernel_rfl) (by kernel_rfl) (by kernel_rfl) (fun _ _ _ h => h) (by rfl) ?_ hHeld ?_; rotate_left; (· (intro wS hSw; (try dsimp only at hSw); go_simp; first | done | with_reducible rfl)); simp only [Act.put, List.setIfInBounds_toArray, List.set_cons_zero, List.set_cons_succ]); (refine take_op (i := 1) (v := ?_) rfl (by kernel_rfl) (by kernel_rfl) (by kernel_rfl) (fun _ _ _ h => h) (by rfl) ?_ hHeld ?_; rotate_left; (· (intro wS hSw; (try dsimp only at hSw); go_simp; first | done | with_reducible rfl)); simp only [Act.put, List.setIfInBounds_toArray, List.set_cons_zero, List.set_cons_succ]); (refine take_op (i := 2) (v := ?_) rfl (by kernel_rfl) (by kernel_rfl) (by kernel_rfl) (fun _ _ _ h => h) (by rfl) ?_ hHeld ?_; rotate_left; (· (intro wS hSw; (try dsimp only at hSw); go_simp; first | done | with_reducible rfl)); simp only [Act.put, List.setIfInBounds_toArray, List.set_cons_zero, List.set_cons_succ]); (refine take_op (i := 3) (v := ?_) rfl (by kernel_rfl) (by kernel_rfl) (by kernel_rfl) (fun _ _ _ h => h) (by rfl) ?_ hHeld ?_; rotate_left; (· (intro wS hSw; (try dsimp only at hSw); go_simp; first | done | with_reducible rfl)); simp only [Act.put, List.setIfInBounds_toArray, List.set_cons_zero, List.set_cons_succ]); (refine take_op (i := 4) (v := ?_) rfl (by kernel_rfl) (by kernel_rfl) (by kernel_rfl) (fun _ _ _ h => h) (by rfl) ?_ hHeld ?_; rotate_left; (· (intro wS hSw; (try dsimp only at hSw); go_simp; first | done | with_reducible rfl)); simp only [Act.put, List.setIfInBounds_toArray, List.set_cons_zero, List.set_cons_succ]); (refine take_op (i := 5) (v := ?_) rfl (by kernel_rfl) (by kernel_rfl) (by kernel_rfl) (fun _ _ _ h => h) (by rfl) ?_ hHeld ?_; rotate_left; (· (intro wS hSw; (try dsimp only at hSw); go_simp; first | done | with_reducible rfl)); simp only [Act.put, List.setIfInBounds_toArray, List.set_cons_zero, List.set_cons_succ])
            (refine take_op (i := 6) (v := .bool true) rfl (by kernel_rfl) (by kernel_rfl) (by kernel_rfl) (fun _ _ _ h => h) (by rfl) ?_ hHeld ?_; (· (intro wS hSw; clear hSw; go_simp)); simp only [Act.put, List.setIfInBounds_toArray, List.set_cons_zero, List.set_cons_succ])
            (refine take_op (i := 7) (v := ?_) rfl (by kernel_rfl) (by kernel_rfl) (by kernel_rfl) (fun _ _ _ h => h) (by rfl) ?_ hHeld ?_; rotate_left; (· (intro wS hSw; (try dsimp only at hSw); go_simp; first | done | with_reducible rfl)); simp only [Act.put, List.setIfInBounds_toArray, List.set_cons_zero, List.set_cons_succ]); (refine take_op (i := 8) (v := ?_) rfl (by kernel_rfl) (by kernel_rfl) (by kernel_rfl) (fun _ _ _ h => h) (by rfl) ?_ hHeld ?_; rotate_left; (· (intro wS hSw; (try dsimp only at hSw); go_simp; first | done | with_reducible rfl)); simp only [Act.put, List.setIfInBounds_toArray, List.set_cons_zero, List.set_cons_succ]); (refine take_op (i := 9) (v := ?_) rfl (by kernel_rfl) (by kernel_rfl) (by kernel_rfl) (fun _ _ _ h => h) (by rfl) ?_ hHeld ?_; rotate_left; (· (intro wS hSw; (try dsimp only at hSw); go_simp; first | done | with_reducible rfl)); simp only [Act.put, List.setIfInBounds_toArray, List.set_cons_zero, List.set_cons_succ]); (refine take_op (i := 10) (v := ?_) rfl (by kernel_rfl) (by kernel_rfl) (by kernel_rfl) (fun _ _ _ h => h) (by rfl) ?_ hHeld ?_; rotate_left; (· (intro wS hSw; (try dsimp only at hSw); go_simp; first | done | with_reducible rfl)); simp only [Act.put, List.setIfInBounds_toArray, List.set_cons_zero, List.set_cons_succ]); (refine take_op (i := 11) (v := ?_) rfl (by kernel_rfl) (by kernel_rfl) (by kernel_rfl) (fun _ _ _ h => h) (by rfl) ?_ hHeld ?_; rotate_left; (· (intro wS hSw; (try dsimp only at hSw); go_simp; first | done | with_reducible rfl)); simp only [Act.put, List.setIfInBounds_toArray, List.set_cons_zero, List.set_cons_succ]); (refine take_op (i := 12) (v := ?_) rfl (by kernel_rfl) (by kernel_rfl) (by kernel_rfl) (fun _ _ _ h => h) (by rfl) ?_ hHeld ?_; rotate_left; (· (intro wS hSw; (try dsimp only at hSw); go_simp; first | done | with_reducible rfl)); simp only [Act.put, List.setIfInBounds_toArray, List.set_cons_zero, List.set_cons_succ]); (refine take_op (i := 13) (v := ?_) rfl (by kernel_rfl) (by kernel_rfl) (by kernel_rfl) (fun _ _ _ h => h) (by rfl) ?_ hHeld ?_; rotate_left; (· (intro wS hSw; (try dsimp only at hSw); go_simp; first | done | with_reducible rfl)); simp only [Act.put, List.setIfInBounds_toArray, List.set_cons_zero, List.set_cons_succ])
            (refine call_op (i := 14) rfl (by kernel_rfl) (by rfl) (fun K hK => ?_); go_simp; (go_at_call 38; (with_reducible refine (hdm _).mono ?_); rintro e9 w9 ⟨rfl, hb9⟩; replace R := R.keep hb9; replace hE := hE.keep hb9; clear hb9); refine hK.out _ _ (SR17.of R.C R.B hE) (fun hHeld2 => ?_); clear hK K hHeld; have hHeld := hHeld2; clear hHeld2; (try simp only [Act.put, List.setIfInBounds_toArray, List.set_cons_zero, List.set_cons_succ]))
            (refine take_op (i := 15) (v := ?_) rfl (by kernel_rfl) (by kernel_rfl) (by kernel_rfl) (fun _ _ _ h => h) (by rfl) ?_ hHeld ?_; rotate_left; (· (intro wS hSw; (try dsimp only at hSw); go_simp; first | done | with_reducible rfl)); simp only [Act.put, List.setIfInBounds_toArray, List.set_cons_zero, List.set_cons_succ]); (refine take_op (i := 16) (v := ?_) rfl (by kernel_rfl) (by kernel_rfl) (by kernel_rfl) (fun _ _ _ h => h) (by rfl) ?_ hHeld ?_; rotate_left; (· (intro wS hSw; (try dsimp only at hSw); go_simp; first | done | with_reducible rfl)); simp only [Act.put, List.setIfInBounds_toArray, List.set_cons_zero, List.set_cons_succ]); (refine take_op (i := 17) (v := ?_) rfl (by kernel_rfl) (by kernel_rfl) (by kernel_rfl) (fun _ _ _ h => h) (by rfl) ?_ hHeld ?_; rotate_left; (· (intro wS hSw; (try dsimp only at hSw); go_simp; first | done | with_reducible rfl)); simp only [Act.put, List.setIfInBounds_toArray, List.set_cons_zero, List.set_cons_succ]); (refine take_op (i := 18) (v := ?_) rfl (by kernel_rfl) (by kernel_rfl) (by kernel_rfl) (fun _ _ _ h => h) (by rfl) ?_ hHeld ?_; rotate_left; (· (intro wS hSw; (try dsimp only at hSw); go_simp; first | done | with_reducible rfl)); simp only [Act.put, List.setIfInBounds_toArray, List.set_cons_zero, List.set_cons_succ]); (refine take_op (i := 19) (v := ?_) rfl (by kernel_rfl) (by kernel_rfl) (by kernel_rfl) (fun _ _ _ h => h) (by rfl) ?_ hHeld ?_; rotate_left; (· (intro wS hSw; (try dsimp only at hSw); go_simp; first | done | with_reducible rfl)); simp only [Act.put, List.setIfInBounds_toArray, List.set_cons_zero, List.set_cons_succ]); (refine take_op (i := 20) (v := ?_) rfl (by kernel_rfl) (by kernel_rfl) (by kernel_rfl) (fun _ _ _ h => h) (by rfl) ?_ hHeld ?_; rotate_left; (· (intro wS hSw; (try dsimp only at hSw); go_simp; first | done | with_reducible rfl)); simp only [Act.put, List.setIfInBounds_toArray, List.set_cons_zero, List.set_cons_succ]); (refine take_op (i := 21) (v := ?_) rfl (by kernel_rfl) (by kernel_rfl) (by kernel_rfl) (fun _ _ _ h => h) (by rfl) ?_ hHeld ?_; rotate_left; (· (intro wS hSw; (try dsimp only at hSw); go_simp; first | done | with_reducible rfl)); simp only [Act.put, List.setIfInBounds_toArray, List.set_cons_zero, List.set_cons_succ]); (refine take_op (i := 22) (v := ?_) rfl (by kernel_rfl) (by kernel_rfl) (by kernel_rfl) (fun _ _ _ h => h) (by rfl) ?_ hHeld ?_; rotate_left; (· (intro wS hSw; (try dsimp only at hSw); go_simp; first | done | with_reducible rfl)); simp only [Act.put, List.setIfInBounds_toArray, List.set_cons_zero, List.set_cons_succ]); (refine take_op (i := 23) (v := ?_) rfl (by kernel_rfl) (by kernel_rfl) (by kernel_rfl) (fun _ _ _ h => h) (by rfl) ?_ hHeld ?_; rotate_left; (· (intro wS hSw; (try dsimp only at hSw); go_simp; first | done | with_reducible rfl)); simp only [Act.put, List.setIfInBounds_toArray, List.set_cons_zero, List.set_cons_succ]); (refine take_op (i := 24) (v := ?_) rfl (by kernel_rfl) (by kernel_rfl) (by kernel_rfl) (fun _ _ _ h => h) (by rfl) ?_ hHeld ?_; rotate_left; (· (intro wS hSw; (try dsimp only at hSw); go_simp; first | done | with_reducible rfl)); simp only [Act.put, List.setIfInBounds_toArray, List.set_cons_zero, List.set_cons_succ])
            (refine wpAnyH_done (by kernel_rfl) ?_ _)
            clear hHeld hE
            go_wp2_with fail
            go_roundw
            case rel => exact ⟨k + 1, mx, by omega, by go_num, rfl, Lib.hid (by rw [Hst.out, maxE_snoc, ← hmx.out]; simp only; omega), R⟩
            case measure => simp [intOf]; omega
    · have hkl : k = y.length := by have := Hm.out; omega
      have nk : ¬ (k : Int) < (m : Int) := by omega
      have hm0 := Hmx.out k
      rw [hkl, List.take_length] at hmx
      rw [hkl, List.take_length] at hm0
      rw [← hmx.out] at hm0
      have hw : IntKind.i64.wrap (mx + 1) = mx + 1 := IntWalk.i64_in _ (by omega)
      have FIN := Lib.hid (show Gives w (.int .i64 (seqE y c (b1, b2))) (.returned (.int .i64 (mx + 1))) wr from ⟨by rw [hmx.out]; rfl, R.hb⟩)
      clear hmx hkl R
      go_wp2_with fail
      go_ret
      exact FIN.out
end Go.Proofs.Ytpdfbkkhmfnnjaa

namespace Go.Proofs.Ytpdfbkkhmfnnjaa
open Go.RowKit
set_option linter.unusedVariables false
set_option linter.unusedSimpArgs false
set_option maxRecDepth 20000
attribute [local go_sem ↓] Go.wp_at_zero Go.wp_at_succ
attribute [local go_sem] World.cell?_alloc_some frozen_alloc_some
attribute [local go_sem ↓ high] id_neq_run id_eql_run

theorem RS17.app {w W W' : World} {c : CmdT} {b1 b2 : Int} {e : TypeId} {size : Nat} {v : Value} {n : Nat} {xs : List Value} (h : RS17 w c b1 b2 W) (ho : W.ownsRow (w.heap.size + 2) e size v n xs) (hg : W.grownBy W' v.ownBlock) : RS17 w c b1 b2 W' :=
  ⟨below_app h.hb ho hg (by omega) h.hb.size, blk_appX h.C ho hg (by omega), blk_appX h.B ho hg (by omega)⟩
set_option maxHeartbeats 8000000 in
theorem deps17_any (A : Option Addr) (m cp : Nat) (y : List EntT) (c : CmdT) (b1 b2 : Int) (w : World) (h : EntsAt w A m y) (hc : c.Ok) (hm1 : m ≤ 1000000) : Calls Try.prog 17 #[.slice A m cp, c.v, .agg #[.int .i64 b1, .int .i64 b2]] w (DepsP w y c (b1, b2)) := by
  have H := Lib.hid h
  have Hm := Lib.hid h.1
  have Hc := Lib.hid hc
  have hwf : ∀ e ∈ y, wfI e.i := fun e he => by
    obtain ⟨j, hj⟩ := List.getElem?_of_mem he
    exact (h.2.2 j e hj).1.1
  have Hwf := Lib.hid hwf
  clear h hc hwf
  obtain ⟨i0, hi, hz0, hz1, hz2⟩ := idinfoX
  unfold CmdT.v
  go_enter Try.func17, Try.ntmps17
  go_wp2_with fail
  go_loopw [7, 8] (fun s7 s8 wr => ∃ (k n c' : Nat) (A' : Option Addr), k ≤ m ∧ s8 = .int .i64 k ∧ s7 = .slice A' n c' ∧ n ≤ k ∧ RS17 w c b1 b2 wr ∧ wr.ownsRow (w.heap.size + 2) 26 2 (.slice A' n c') n (flat2 (((y.take k).filter (meetE c (b1, b2))).map EntT.id))) (fun _ s8 _ => m - (intOf s8).toNat)
  case atStart => exact ⟨0, 0, 0, none, by omega, rfl, rfl, by omega, ⟨by ((repeat' first | with_reducible exact Below.refl _ _ | with_reducible assumption | with_reducible refine Below.alloc ?_ ?_ _ | with_reducible refine Below.setCell ?_ ?_ _ | with_reducible apply Below.drew | with_reducible apply below_drewN | with_reducible refine below_call ?_ (by with_reducible assumption) ?_) <;> (first | omega | (simp; done) | (simp; omega) | (simp at *; omega))), (Blk.new _ _ _).alloc _, blk_newAt (by simp)⟩, World.ownsRow_nil _ _ _ _⟩
  case round =>
    obtain ⟨k, n, c', A', hk, rfl, rfl, hn, R, hown⟩ := hrel
    by_cases hlt : k < m
    · obtain ⟨e, b, o, e1, hok, rfl, hce⟩ := (H.out.keep R.hb).at_ hlt
      have hE : Ent9 wr b (o + k * 9) e := hce
      have k0 : (0 : Int) ≤ (k : Int) := by omega
      have k1 : (k : Int) < (m : Int) := by omega
      have hst := take_meet17 e1 c (b1, b2)
      clear hce e1
      obtain ⟨⟨r, nn⟩, ⟨ck, cl, cq, ky, vl, rv⟩, sq⟩ := e
      have hdm := fun W => dmeet_any c.kind c.client c.seq c.key c.val c.rev ck cl cq ky vl rv W Hc.out.key hok.2.1.key
      by_cases hq : (r = b1 ∧ nn = b2)
      · obtain ⟨rfl, rfl⟩ := hq
        rw [if_neg (by simp [meetE]), List.append_nil] at hst
        have Hst := Lib.hid hst
        clear hst hdm
        go_upto_region 5 with fail
        replace R := R.keep (Below.refl _ _).drew
        replace hE := hE.keep (Below.refl _ _).drew
        replace hown := ownX_keep hown (Below.refl _ _).drew
        (refine wp_region_held_drew (S := (SR17 w.heap.size #[.int .i64 c.kind, .int .i64 c.client, .int .i64 c.seq, .string c.key, .string c.val, .int .i64 c.rev] (w.heap.size + 1) #[.int .i64 r, .int .i64 nn] b (o + k * 9) r nn ck cl cq ky vl rv sq)) (by kernel_rfl) ?_ (fun hHeld => ?_); (· exact SR17.of R.C R.B hE))
        (refine take_op (i := 0) (v := ?_) rfl (by kernel_rfl) (by kernel_rfl) (by kernel_rfl) (fun _ _ _ h => h) (by rfl) ?_ hHeld ?_; rotate_left; (· (intro wS hSw; (try dsimp only at hSw); go_simp; first | done | with_reducible rfl)); simp only [Act.put, List.setIfInBounds_toArray, List.set_cons_zero, List.set_cons_succ]); (refine take_op (i := 1) (v := ?_) rfl (by kernel_rfl) (by kernel_rfl) (by kernel_rfl) (fun _ _ _ h => h) (by rfl) ?_ hHeld ?_; rotate_left; (· (intro wS hSw; (try dsimp only at hSw); go_simp; first | done | with_reducible rfl)); simp only [Act.put, List.setIfInBounds_toArray, List.set_cons_zero, List.set_cons_succ]); (refine take_op (i := 2) (v := ?_) rfl (by kernel_rfl) (by kernel_rfl) (by kernel_rfl) (fun _ _ _ h => h) (by rfl) ?_ hHeld ?_; rotate_left; (· (intro wS hSw; (try dsimp only at hSw); go_simp; first | done | with_reducible rfl)); simp only [Act.put, List.setIfInBounds_toArray, List.set_cons_zero, List.set_cons_succ]); (refine take_op (i := 3) (v := ?_) rfl (by kernel_rfl) (by kernel_rfl) (by kernel_rfl) (fun _ _ _ h => h) (by rfl) ?_ hHeld ?_; rotate_left; (· (intro wS hSw; (try dsimp only at hSw); go_simp; first | done | with_reducible rfl)); simp only [Act.put, List.setIfInBounds_toArray, List.set_cons_zero, List.set_cons_succ]); (refine take_op (i := 4) (v := ?_) rfl (by kernel_rfl) (by kernel_rfl) (by kernel_rfl) (fun _ _ _ h => h) (by rfl) ?_ hHeld ?_; rotate_left; (· (intro wS hSw; (try dsimp only at hSw); go_simp; first | done | with_reducible rfl)); simp only [Act.put, List.setIfInBounds_toArray, List.set_cons_zero, List.set_cons_succ]); (refine take_op (i := 5) (v := ?_) rfl (by kernel_rfl) (by kernel_rfl) (by kernel_rfl) (fun _ _ _ h => h) (by rfl) ?_ hHeld ?_; rotate_left; (· (intro wS hSw; (try dsimp only at hSw); go_simp; first | done | with_reducible rfl)); simp only [Act.put, List.setIfInBounds_toArray, List.set_cons_zero, List.set_cons_succ]); (refine take_op (i := 6) (v := ?_) rfl (by kernel_rfl) (by kernel_rfl) (by kernel_rfl) (fun _ _ _ h => h) (by rfl) ?_ hHeld ?_; rotate_left; (· (intro wS hSw; (try dsimp only at hSw); go_simp; first | done | with_reducible rfl)); simp only [Act.put, List.setIfInBounds_toArray, List.set_cons_zero, List.set_cons_succ]); (refine take_op (i := 7) (v := ?_) rfl (by kernel_rfl) (by kernel_rfl) (by kernel_rfl) (fun _ _ _ h => h) (by rfl) ?_ hHeld ?_; rotate_left; (· (intro wS hSw; (try dsimp only at hSw); go_simp; first | done | with_reducible rfl)); simp only [Act.put, List.setIfInBounds_toArray, List.set_cons_zero, List.set_cons_succ])
        (refine skip_op (i := 8) rfl (by kernel_rfl) (by kernel_rfl) (by kernel_rfl) (fun _ _ _ h => h) (by rfl) hHeld ?_; simp only [Act.put, List.setIfInBounds_toArray, List.set_cons_zero, List.set_cons_succ]); (refine skip_op (i := 9) rfl (by kernel_rfl) (by kernel_rfl) (by kernel_rfl) (fun _ _ _ h => h) (by rfl) hHeld ?_; simp only [Act.put, List.setIfInBounds_toArray, List.set_cons_zero, List.set_cons_succ]); (refine skip_op (i := 10) rfl (by kernel_rfl) (by kernel_rfl) (by kernel_rfl) (fun _ _ _ h => h) (by rfl) hHeld ?_; simp only [Act.put, List.setIfInBounds_toArray, List.set_cons_zero, List.set_cons_succ]); (refine skip_op (i := 11) rfl (by kernel_rfl) (by kernel_rfl) (by kernel_rfl) (fun _ _ _ h => h) (by rfl) hHeld ?_; simp only [Act.put, List.setIfInBounds_toArray, List.set_cons_zero, List.set_cons_succ]); (refine skip_op (i := 12) rfl (by kernel_rfl) (by kernel_rfl) (by kernel_rfl) (fun _ _ _ h => h) (by rfl) hHeld ?_; simp only [Act.put, List.setIfInBounds_toArray, List.set_cons_zero, List.set_cons_succ]); (refine skip_op (i := 13) rfl (by kernel_rfl) (by kernel_rfl) (by kernel_rfl) (fun _ _ _ h => h) (by rfl) hHeld ?_; simp only [Act.put, List.setIfInBounds_toArray, List.set_cons_zero, List.set_cons_succ]); (refine skip_op (i := 14) rfl (by kernel_rfl) (by kernel_rfl) (by kernel_rfl) (fun _ _ _ h => h) (by rfl) hHeld ?_; simp only [Act.put, List.setIfInBounds_toArray, List.set_cons_zero, List.set_cons_succ])
        (refine take_op (i := 15) (v := ?_) rfl (by kernel_rfl) (by kernel_rfl) (by kernel_rfl) (fun _ _ _ h => h) (by rfl) ?_ hHeld ?_; rotate_left; (· (intro wS hSw; (try dsimp only at hSw); go_simp; first | done | with_reducible rfl)); simp only [Act.put, List.setIfInBounds_toArray, List.set_cons_zero, List.set_cons_succ])
        (refine wpAnyH_done (by kernel_rfl) ?_ _)
        clear hHeld hE
        revert R hown
        generalize wr.drew = wd
        intro R hown
        go_wp2_with fail
        go_roundw
        case rel => exact ⟨k + 1, n, c', A', by omega, by go_num, rfl, by omega, R, by rw [Hst.out]; exact hown⟩
        case measure => simp [intOf]; omega
      · have hneq : (r == b1 && nn == b2) = false := by simpa using hq
        obtain ⟨M, hM⟩ : ∃ M, cmeet c.kind c.client c.key ck cl ky = M := ⟨_, rfl⟩
        rw [hM] at hdm
        have hme : meetE c (b1, b2) ⟨(r, nn), ⟨ck, cl, cq, ky, vl, rv⟩, sq⟩ = M := by
          have hne : (r, nn) ≠ (b1, b2) := fun h => hq (by simpa using h)
          simp [meetE, hne, hM]
        rw [hme] at hst
        clear hM hme
        cases M
        · rw [if_neg (by simp), List.append_nil] at hst
          have Hst := Lib.hid hst
          clear hst
          go_upto_region 5 with fail
          replace R := R.keep (Below.refl _ _).drew
          replace hE := hE.keep (Below.refl _ _).drew
          replace hown := ownX_keep hown (Below.refl _ _).drew
          (refine wp_region_held_drew (S := (SR17 w.heap.size #[.int .i64 c.kind, .int .i64 c.client, .int .i64 c.seq, .string c.key, .string c.val, .int .i64 c.rev] (w.heap.size + 1) #[.int .i64 b1, .int .i64 b2] b (o + k * 9) r nn ck cl cq ky vl rv sq)) (by kernel_rfl) ?_ (fun hHeld => ?_); (· exact SR17.of R.C R.B hE))
          (refine take_op (i := 0) (v := ?_) rfl (by kernel_rfl) (by kernel_rfl) (by kernel_rfl) (fun _ _ _ h => h) (by rfl) ?_ hHeld ?_; rotate_left; (· (intro wS hSw; (try dsimp only at hSw); go_simp; first | done | with_reducible rfl)); simp only [Act.put, List.setIfInBounds_toArray, List.set_cons_zero, List.set_cons_succ]); (refine take_op (i := 1) (v := ?_) rfl (by kernel_rfl) (by kernel_rfl) (by kernel_rfl) (fun _ _ _ h => h) (by rfl) ?_ hHeld ?_; rotate_left; (· (intro wS hSw; (try dsimp only at hSw); go_simp; first | done | with_reducible rfl)); simp only [Act.put, List.setIfInBounds_toArray, List.set_cons_zero, List.set_cons_succ]); (refine take_op (i := 2) (v := ?_) rfl (by kernel_rfl) (by kernel_rfl) (by kernel_rfl) (fun _ _ _ h => h) (by rfl) ?_ hHeld ?_; rotate_left; (· (intro wS hSw; (try dsimp only at hSw); go_simp; first | done | with_reducible rfl)); simp only [Act.put, List.setIfInBounds_toArray, List.set_cons_zero, List.set_cons_succ]); (refine take_op (i := 3) (v := ?_) rfl (by kernel_rfl) (by kernel_rfl) (by kernel_rfl) (fun _ _ _ h => h) (by rfl) ?_ hHeld ?_; rotate_left; (· (intro wS hSw; (try dsimp only at hSw); go_simp; first | done | with_reducible rfl)); simp only [Act.put, List.setIfInBounds_toArray, List.set_cons_zero, List.set_cons_succ]); (refine take_op (i := 4) (v := ?_) rfl (by kernel_rfl) (by kernel_rfl) (by kernel_rfl) (fun _ _ _ h => h) (by rfl) ?_ hHeld ?_; rotate_left; (· (intro wS hSw; (try dsimp only at hSw); go_simp; first | done | with_reducible rfl)); simp only [Act.put, List.setIfInBounds_toArray, List.set_cons_zero, List.set_cons_succ]); (refine take_op (i := 5) (v := ?_) rfl (by kernel_rfl) (by kernel_rfl) (by kernel_rfl) (fun _ _ _ h => h) (by rfl) ?_ hHeld ?_; rotate_left; (· (intro wS hSw; (try dsimp only at hSw); go_simp; first | done | with_reducible rfl)); simp only [Act.put, List.setIfInBounds_toArray, List.set_cons_zero, List.set_cons_succ])
          (refine take_op (i := 6) (v := .bool true) rfl (by kernel_rfl) (by kernel_rfl) (by kernel_rfl) (fun _ _ _ h => h) (by rfl) ?_ hHeld ?_; (· (intro wS hSw; clear hSw; go_simp)); simp only [Act.put, List.setIfInBounds_toArray, List.set_cons_zero, List.set_cons_succ])
          (refine take_op (i := 7) (v := ?_) rfl (by kernel_rfl) (by kernel_rfl) (by kernel_rfl) (fun _ _ _ h => h) (by rfl) ?_ hHeld ?_; rotate_left; (· (intro wS hSw; (try dsimp only at hSw); go_simp; first | done | with_reducible rfl)); simp only [Act.put, List.setIfInBounds_toArray, List.set_cons_zero, List.set_cons_succ]); (refine take_op (i := 8) (v := ?_) rfl (by kernel_rfl) (by kernel_rfl) (by kernel_rfl) (fun _ _ _ h => h) (by rfl) ?_ hHeld ?_; rotate_left; (· (intro wS hSw; (try dsimp only at hSw); go_simp; first | done | with_reducible rfl)); simp only [Act.put, List.setIfInBounds_toArray, List.set_cons_zero, List.set_cons_succ]); (refine take_op (i := 9) (v := ?_) rfl (by kernel_rfl) (by kernel_rfl) (by kernel_rfl) (fun _ _ _ h => h) (by rfl) ?_ hHeld ?_; rotate_left; (· (intro wS hSw; (try dsimp only at hSw); go_simp; first | done | with_reducible rfl)); simp only [Act.put, List.setIfInBounds_toArray, List.set_cons_zero, List.set_cons_succ]); (refine take_op (i := 10) (v := ?_) rfl (by kernel_rfl) (by kernel_rfl) (by kernel_rfl) (fun _ _ _ h => h) (by rfl) ?_ hHeld ?_; rotate_left; (· (intro wS hSw; (try dsimp only at hSw); go_simp; first | done | with_reducible rfl)); simp only [Act.put, List.setIfInBounds_toArray, List.set_cons_zero, List.set_cons_succ]); (refine take_op (i := 11) (v := ?_) rfl (by kernel_rfl) (by kernel_rfl) (by kernel_rfl) (fun _ _ _ h => h) (by rfl) ?_ hHeld ?_; rotate_left; (· (intro wS hSw; (try dsimp only at hSw); go_simp; first | done | with_reducible rfl)); simp only [Act.put, List.setIfInBounds_toArray, List.set_cons_zero, List.set_cons_succ]); (refine take_op (i := 12) (v := ?_) rfl (by kernel_rfl) (by kernel_rfl) (by kernel_rfl) (fun _ _ _ h => h) (by rfl) ?_ hHeld ?_; rotate_left; (· (intro wS hSw; (try dsimp only at hSw); go_simp; first | done | with_reducible rfl)); simp only [Act.put, List.setIfInBounds_toArray, List.set_cons_zero, List.set_cons_succ]); (refine take_op (i := 13) (v := ?_) rfl (by kernel_rfl) (by kernel_rfl) (by kernel_rfl) (fun _ _ _ h => h) (by rfl) ?_ hHeld ?_; rotate_left; (· (intro wS hSw; (try dsimp only at hSw); go_simp; first | done | with_reducible rfl)); simp only [Act.put, List.setIfInBounds_toArray, List.set_cons_zero, List.set_cons_succ])
          (refine call_op (i := 14) rfl (by kernel_rfl) (by rfl) (fun K hK => ?_); go_simp; (go_at_call 38; (with_reducible refine (hdm _).mono ?_); rintro e9 w9 ⟨rfl, hb9⟩; replace R := R.keep hb9; replace hE := hE.keep hb9; replace hown := ownX_keep hown hb9; clear hb9); refine hK.out _ _ (SR17.of R.C R.B hE) (fun hHeld2 => ?_); clear hK K hHeld; have hHeld := hHeld2; clear hHeld2; (try simp only [Act.put, List.setIfInBounds_toArray, List.set_cons_zero, List.set_cons_succ]))
          (refine take_op (i := 15) (v := ?_) rfl (by kernel_rfl) (by kernel_rfl) (by kernel_rfl) (fun _ _ _ h => h) (by rfl) ?_ hHeld ?_; rotate_left; (· (intro wS hSw; (try dsimp only at hSw); go_simp; first | done | with_reducible rfl)); simp only [Act.put, List.setIfInBounds_toArray, List.set_cons_zero, List.set_cons_succ])
          (refine wpAnyH_done (by kernel_rfl) ?_ _)
          clear hHeld hE
          go_wp2_with fail
          go_roundw
          case rel => exact ⟨k + 1, n, c', A', by omega, by go_num, rfl, by omega, R, by rw [Hst.out]; exact hown⟩
          case measure => simp [intOf]; omega
        · rw [if_pos rfl] at hst
          have Hst := Lib.hid hst
          clear hst
          go_upto_region 5 with fail
          replace R := R.keep (Below.refl _ _).drew
          replace hE := hE.keep (Below.refl _ _).drew
          replace hown := ownX_keep hown (Below.refl _ _).drew
          (refine wp_region_held_drew (S := (SR17 w.heap.size #[.int .i64 c.kind, .int .i64 c.client, .int .i64 c.seq, .string c.key, .string c.val, .int .i64 c.rev] (w.heap.size + 1) #[.int .i64 b1, .int .i64 b2] b (o + k * 9) r nn ck cl cq ky vl rv sq)) (by kernel_rfl) ?_ (fun hHeld => ?_); (· exact SR17.of R.C R.B hE))
          (refine take_op (i := 0) (v := ?_) rfl (by kernel_rfl) (by kernel_rfl) (by kernel_rfl) (fun _ _ _ h => h) (by rfl) ?_ hHeld ?_; rotate_left; (· (intro wS hSw; (try dsimp only at hSw); go_simp; first | done | with_reducible rfl)); simp only [Act.put, List.setIfInBounds_toArray, List.set_cons_zero, List.set_cons_succ]); (refine take_op (i := 1) (v := ?_) rfl (by kernel_rfl) (by kernel_rfl) (by kernel_rfl) (fun _ _ _ h => h) (by rfl) ?_ hHeld ?_; rotate_left; (· (intro wS hSw; (try dsimp only at hSw); go_simp; first | done | with_reducible rfl)); simp only [Act.put, List.setIfInBounds_toArray, List.set_cons_zero, List.set_cons_succ]); (refine take_op (i := 2) (v := ?_) rfl (by kernel_rfl) (by kernel_rfl) (by kernel_rfl) (fun _ _ _ h => h) (by rfl) ?_ hHeld ?_; rotate_left; (· (intro wS hSw; (try dsimp only at hSw); go_simp; first | done | with_reducible rfl)); simp only [Act.put, List.setIfInBounds_toArray, List.set_cons_zero, List.set_cons_succ]); (refine take_op (i := 3) (v := ?_) rfl (by kernel_rfl) (by kernel_rfl) (by kernel_rfl) (fun _ _ _ h => h) (by rfl) ?_ hHeld ?_; rotate_left; (· (intro wS hSw; (try dsimp only at hSw); go_simp; first | done | with_reducible rfl)); simp only [Act.put, List.setIfInBounds_toArray, List.set_cons_zero, List.set_cons_succ]); (refine take_op (i := 4) (v := ?_) rfl (by kernel_rfl) (by kernel_rfl) (by kernel_rfl) (fun _ _ _ h => h) (by rfl) ?_ hHeld ?_; rotate_left; (· (intro wS hSw; (try dsimp only at hSw); go_simp; first | done | with_reducible rfl)); simp only [Act.put, List.setIfInBounds_toArray, List.set_cons_zero, List.set_cons_succ]); (refine take_op (i := 5) (v := ?_) rfl (by kernel_rfl) (by kernel_rfl) (by kernel_rfl) (fun _ _ _ h => h) (by rfl) ?_ hHeld ?_; rotate_left; (· (intro wS hSw; (try dsimp only at hSw); go_simp; first | done | with_reducible rfl)); simp only [Act.put, List.setIfInBounds_toArray, List.set_cons_zero, List.set_cons_succ])
          (refine take_op (i := 6) (v := .bool true) rfl (by kernel_rfl) (by kernel_rfl) (by kernel_rfl) (fun _ _ _ h => h) (by rfl) ?_ hHeld ?_; (· (intro wS hSw; clear hSw; go_simp)); simp only [Act.put, List.setIfInBounds_toArray, List.set_cons_zero, List.set_cons_succ])
          (refine take_op (i := 7) (v := ?_) rfl (by kernel_rfl) (by kernel_rfl) (by kernel_rfl) (fun _ _ _ h => h) (by rfl) ?_ hHeld ?_; rotate_left; (· (intro wS hSw; (try dsimp only at hSw); go_simp; first | done | with_reducible rfl)); simp only [Act.put, List.setIfInBounds_toArray, List.set_cons_zero, List.set_cons_succ]); (refine take_op (i := 8) (v := ?_) rfl (by kernel_rfl) (by kernel_rfl) (by kernel_rfl) (fun _ _ _ h => h) (by rfl) ?_ hHeld ?_; rotate_left; (· (intro wS hSw; (try dsimp only at hSw); go_simp; first | done | with_reducible rfl)); simp only [Act.put, List.setIfInBounds_toArray, List.set_cons_zero, List.set_cons_succ]); (refine take_op (i := 9) (v := ?_) rfl (by kernel_rfl) (by kernel_rfl) (by kernel_rfl) (fun _ _ _ h => h) (by rfl) ?_ hHeld ?_; rotate_left; (· (intro wS hSw; (try dsimp only at hSw); go_simp; first | done | with_reducible rfl)); simp only [Act.put, List.setIfInBounds_toArray, List.set_cons_zero, List.set_cons_succ]); (refine take_op (i := 10) (v := ?_) rfl (by kernel_rfl) (by kernel_rfl) (by kernel_rfl) (fun _ _ _ h => h) (by rfl) ?_ hHeld ?_; rotate_left; (· (intro wS hSw; (try dsimp only at hSw); go_simp; first | done | with_reducible rfl)); simp only [Act.put, List.setIfInBounds_toArray, List.set_cons_zero, List.set_cons_succ]); (refine take_op (i := 11) (v := ?_) rfl (by kernel_rfl) (by kernel_rfl) (by kernel_rfl) (fun _ _ _ h => h) (by rfl) ?_ hHeld ?_; rotate_left; (· (intro wS hSw; (try dsimp only at hSw); go_simp; first | done | with_reducible rfl)); simp only [Act.put, List.setIfInBounds_toArray, List.set_cons_zero, List.set_cons_succ]); (refine take_op (i := 12) (v := ?_) rfl (by kernel_rfl) (by kernel_rfl) (by kernel_rfl) (fun _ _ _ h => h) (by rfl) ?_ hHeld ?_; rotate_left; (· (intro wS hSw; (try dsimp only at hSw); go_simp; first | done | with_reducible rfl)); simp only [Act.put, List.setIfInBounds_toArray, List.set_cons_zero, List.set_cons_succ]); (refine take_op (i := 13) (v := ?_) rfl (by kernel_rfl) (by kernel_rfl) (by kernel_rfl) (fun _ _ _ h => h) (by rfl) ?_ hHeld ?_; rotate_left; (· (intro wS hSw; (try dsimp only at hSw); go_simp; first | done | with_reducible rfl)); simp only [Act.put, List.setIfInBounds_toArray, List.set_cons_zero, List.set_cons_succ])
          (refine call_op (i := 14) rfl (by kernel_rfl) (by rfl) (fun K hK => ?_); go_simp; (go_at_call 38; (with_reducible refine (hdm _).mono ?_); rintro e9 w9 ⟨rfl, hb9⟩; replace R := R.keep hb9; replace hE := hE.keep hb9; replace hown := ownX_keep hown hb9; clear hb9); refine hK.out _ _ (SR17.of R.C R.B hE) (fun hHeld2 => ?_); clear hK K hHeld; have hHeld := hHeld2; clear hHeld2; (try simp only [Act.put, List.setIfInBounds_toArray, List.set_cons_zero, List.set_cons_succ]))
          (refine take_op (i := 15) (v := ?_) rfl (by kernel_rfl) (by kernel_rfl) (by kernel_rfl) (fun _ _ _ h => h) (by rfl) ?_ hHeld ?_; rotate_left; (· (intro wS hSw; (try dsimp only at hSw); go_simp; first | done | with_reducible rfl)); simp only [Act.put, List.setIfInBounds_toArray, List.set_cons_zero, List.set_cons_succ])
          (refine wpAnyH_done (by kernel_rfl) ?_ _)
          have c0 := hE 0 _ rfl
          have c1 := hE 1 _ rfl
          simp only [Nat.add_zero] at c0 c1
          clear hHeld hE hneq hq
          have hzr := R.hb.size
          have hzB := R.B.lt
          have ka := below_one (w := w9) (.cells #[.int .i64 r, .int .i64 nn] 26)
          have hsrc := src_two' (w := w9) (r := r) (n := nn)
          have hownA := ownX_keep hown ka
          go_wp2_with ((at_builtin; go_loud (refine wpList_app _ rfl (.tmp 31) (.tmp 37) 42 rfl _ 26 i0 _ 2 16 Try.underlying42 hi hz0 hz1 hz2 rfl (by omega) _ _ _ rfl hownA _ _ _ _ rfl hsrc ?h63 ?hby ?hbase ?_); (case h63 => (unfold maxLen; first | omega | (simp; done) | (simp; omega))); (case hby => first | omega | (simp; done) | (simp; omega)); (case hbase => first | omega | (simp; done) | (simp; omega)); intro v9 w8 hownw8 hgroww8 hatw8 holdw8))
          obtain ⟨A8, c8', rfl, _, _⟩ := ownX_form hownw8
          go_roundw
          case rel => exact ⟨k + 1, n + 1, c8', A8, by omega, by go_num, rfl, by omega, (R.keep ka).app hownA hgroww8, by rw [Hst.out, List.map_append, flat2_append]; exact hownw8⟩
          case measure => simp [intOf]; omega
    · have hkl : k = y.length := by have := Hm.out; omega
      have nk : ¬ (k : Int) < (m : Int) := by omega
      rw [hkl, List.take_length] at hown
      obtain ⟨hI, _, _⟩ := ids_of_own hown (by unfold maxLen; omega) (fun x hx => by obtain ⟨e, he, rfl⟩ := List.mem_map.1 hx; exact Hwf.out e (List.mem_filter.1 he).1)
      have hn6 : n ≤ 1000000 := by omega
      have I5 := Lib.hid hI
      have hset := Lib.hid (show ∀ W, IdsAt W A' n ((y.filter (meetE c (b1, b2))).map EntT.id) → Calls Try.prog 21 #[.slice A' n c'] W (DepsP W y c (b1, b2)) from fun W hw => set5_any A' n c' _ W hw hn6)
      clear hI hown hkl
      go_wp2_with (go_at_call 21; (with_reducible refine (hset.out _ I5.out).mono ?_); rintro e9 w9 ⟨A9, c9, rfl, hI9, hb9⟩; have I9 := Lib.hid hI9; clear hI9)
      go_ret
      exact ⟨A9, c9, rfl, I9.out, below_call R.hb hb9 R.hb.size⟩
end Go.Proofs.Ytpdfbkkhmfnnjaa

namespace Go.Proofs.Ytpdfbkkhmfnnjaa
open Go.RowKit
set_option linter.unusedVariables false
set_option linter.unusedSimpArgs false
set_option maxRecDepth 20000
attribute [local go_sem ↓] Go.wp_at_zero Go.wp_at_succ
attribute [local go_sem] World.cell?_alloc_some frozen_alloc_some
attribute [local go_sem ↓ high] id_neq_run id_eql_run
open Go.Maps

theorem lseq_self (l : List IdP) : lseq l l = true := by simp [lseq]
theorem IxAt.mono {w : World} {F : Nat → Prop} {g n n' : Nat} {y : List EntT} (h : IxAt w F g y n) (hn : n ≤ n') : IxAt w F g y n' := by
  obtain ⟨ba, bk, bc, bw, ks, cs, co, h1, h2, h3, h4, h5, h6⟩ := h
  exact ⟨ba, bk, bc, bw, ks, cs, co, h1, h2, h3, by omega, by omega, by omega⟩
/-- The index, and the document's entries beside it. -/
structure PL (w : World) (c : CmdT) (b1 b2 : Int) (F : Nat → Prop) (g n : Nat) (y : List EntT) (A : Option Addr) (m cp : Nat) (W : World) : Prop where
  hb : Below w.heap.size w W
  C : Blk W w.heap.size 24 #[.int .i64 c.kind, .int .i64 c.client, .int .i64 c.seq, .string c.key, .string c.val, .int .i64 c.rev]
  B : Blk W (w.heap.size + 1) 26 #[.int .i64 b1, .int .i64 b2]
  X : IxAt W F g y n
  lo : ∀ k, F k → w.heap.size + 2 ≤ k
  O : W.ownsRow (w.heap.size + 2) 38 9 (.slice A m cp) m (flatE y)
  no : ∀ k, (.slice A m cp : Value).ownBlock = some k → ¬ F k
  ok : ∀ e ∈ y, EntOk e ∧ e.s ≤ 1152921504606846976
  len : m = y.length ∧ y.length ≤ n ∧ n ≤ 60
theorem PL.keep {w : World} {c : CmdT} {b1 b2 : Int} {F : Nat → Prop} {g n : Nat} {y : List EntT} {A : Option Addr} {m cp : Nat} {W W' : World} (h : PL w c b1 b2 F g n y A m cp W) (hb : Below W.heap.size W W') : PL w c b1 b2 F g n y A m cp W' :=
  ⟨below_call h.hb hb h.hb.size, h.C.keep hb, h.B.keep hb, h.X.keep hb, h.lo, ownX_keep h.O hb, h.no, h.ok, h.len⟩
theorem PL.ents {w : World} {c : CmdT} {b1 b2 : Int} {F : Nat → Prop} {g n : Nat} {y : List EntT} {A : Option Addr} {m cp : Nat} {W : World} (h : PL w c b1 b2 F g n y A m cp W) : EntsAt W A m y :=
  ents_own h.O h.len.1 (by have := h.len; unfold maxLen; omega) fun e he => (h.ok e he).1
abbrev SPl (h : Nat) (cs : Array Value) (g : Nat) (ds : Array Value) (wx : World) : Prop := (∀ i, wx.cell? ⟨h, i, none⟩ = cs[i]?) ∧ ∀ i, wx.cell? ⟨g, i, none⟩ = ds[i]?
theorem ownX_ent {w : World} {base : Nat} {e : TypeId} {A : Option Addr} {n c : Nat} {xs : List Value} {k : Nat} (h : w.ownsRow base e 9 (.slice A n c) n xs) (hk : (.slice A n c : Value).ownBlock = some k) : base ≤ k ∧ k < w.heap.size := h.lt k hk
set_option maxHeartbeats 16000000 in
theorem indexplays_walk (A : Option Addr) (m cap : Nat) (l : List XA) (c : CmdT) (b1 b2 : Int) (w : World) (h : XActsAt w A m l) (hc : c.Ok) (wb : wfI (b1, b2)) :
    Calls Try.prog 3 #[.slice A m cap, c.v, .agg #[.int .i64 b1, .int .i64 b2]] w (Gives w (.bool true)) := by
  have haw := fun W => awake17_any W
  have hgc := fun W => great_any c.kind c.client c.seq c.key c.val c.rev W
  have hgr := fun W (hb : Below w.heap.size w W) => great17_any A m cap l W (h.keep hb)
  have hnew := fun W => ixnewP_any W
  obtain ⟨j0, hj0, hjz0, hjzz, hjz2⟩ := ent17info
  have H := Lib.hid h
  have Hc := Lib.hid hc
  have hmm : m ≤ 9223372036854775807 := by have := h.2.1; unfold maxLen at this; omega
  obtain ⟨W2, hW2⟩ : ∃ W2, W2 = (w.alloc (.cells #[.int .i64 c.kind, .int .i64 c.client, .int .i64 c.seq, .string c.key, .string c.val, .int .i64 c.rev] 24)).alloc (.cells #[.int .i64 b1, .int .i64 b2] 26) := ⟨_, rfl⟩
  have k2 : Below w.heap.size w W2 := by
    have := hW2
    subst this
    ((repeat' first | with_reducible exact Below.refl _ _ | with_reducible assumption | with_reducible refine Below.alloc ?_ ?_ _ | with_reducible refine Below.setCell ?_ ?_ _ | with_reducible apply Below.drew | with_reducible apply below_drewN | with_reducible refine below_call ?_ (by with_reducible assumption) ?_) <;> (first | omega | (simp; done) | (simp; omega) | (simp at *; omega)))
  have C2 : Blk W2 w.heap.size 24 #[.int .i64 c.kind, .int .i64 c.client, .int .i64 c.seq, .string c.key, .string c.val, .int .i64 c.rev] := by rw [hW2]; exact (Blk.new _ _ _).alloc _
  have B2 : Blk W2 (w.heap.size + 1) 26 #[.int .i64 b1, .int .i64 b2] := by rw [hW2]; exact blk_newAt (by simp)
  have hgr2 := hgr W2 k2
  have cc := C2.cell
  clear h hc hgr wb
  subst hW2
  obtain ⟨G, hG⟩ : ∃ G, cgreat c.key c.val = G := ⟨_, rfl⟩
  rw [hG] at hgc
  clear hG
  unfold CmdT.v
  go_enter Try.func3, Try.ntmps3
  go_upto_region 1 with fail
  go_cut [16] (fun s16 wx => ∃ q : Bool, s16 = .bool q ∧ (q = false → m ≤ 60) ∧ Below w.heap.size w wx ∧ Blk wx w.heap.size 24 #[.int .i64 c.kind, .int .i64 c.client, .int .i64 c.seq, .string c.key, .string c.val, .int .i64 c.rev] ∧ Blk wx (w.heap.size + 1) 26 #[.int .i64 b1, .int .i64 b2])
  case first =>
    cases G
    · go_wp2_with (first | (go_at_call 7; (with_reducible refine hgr2.mono ?_); rintro e9 w3 ⟨q, rfl, hq, hb9⟩; have Hq := Lib.hid hq; have k3 := below_call k2 hb9 k2.size; have C3 := C2.keep hb9; have B3 := B2.keep hb9; clear cc hq hb9; have cc := C3.cell; cases q) | (go_at_call 8; (with_reducible refine (hgc _).mono ?_); rintro e9 w4 ⟨rfl, hb9⟩; have k4 := below_call k3 hb9 k3.size; have C4 := C3.keep hb9; have B4 := B3.keep hb9; clear hb9 cc))
      · go_meet
        exact ⟨_, rfl, (fun _ => Hq.out trivial), k4, C4, B4⟩
      · go_meet
        exact ⟨_, rfl, (fun h => by cases h), k3, C3, B3⟩
    · go_wp2_with (first | (go_at_call 7; (with_reducible refine hgr2.mono ?_); rintro e9 w3 ⟨q, rfl, hq, hb9⟩; have Hq := Lib.hid hq; have k3 := below_call k2 hb9 k2.size; have C3 := C2.keep hb9; have B3 := B2.keep hb9; clear cc hq hb9; have cc := C3.cell; cases q) | (go_at_call 8; (with_reducible refine (hgc _).mono ?_); rintro e9 w4 ⟨rfl, hb9⟩; have k4 := below_call k3 hb9 k3.size; have C4 := C3.keep hb9; have B4 := B3.keep hb9; clear hb9 cc))
      · go_meet
        exact ⟨_, rfl, (fun h => by cases h), k4, C4, B4⟩
      · go_meet
        exact ⟨_, rfl, (fun h => by cases h), k3, C3, B3⟩
  case rest =>
    clear hgr2 hgc k2 C2 B2 cc
    obtain ⟨q, rfl, hq, kx, Cx, Bx⟩ := hcut
    cases q
    · replace hq := hq rfl
      have hqi : (m : Int) ≤ 60 := by omega
      go_wp2_with (go_at_call 10; (with_reducible refine (hnew _).mono ?_); rintro e9 w5 ⟨g, F, rfl, X, hF, hb9⟩)
      have P0 : PL w c b1 b2 F g 0 [] none 0 0 w5 := by
        have hB := Bx.lt
        refine ⟨below_call kx hb9 kx.size, Cx.keep hb9, Bx.keep hb9, X, fun k hk => (by have := hF k hk; omega), World.ownsRow_nil _ _ _ _, fun k hk => (by cases hk), fun e he => (by cases he), ⟨rfl, Nat.le_refl _, by omega⟩⟩
      clear X hF hb9 kx Cx Bx hnew
      go_loopw [8, 9] (fun s8 s9 wr => ∃ (i : Nat) (F : Nat → Prop) (y : List EntT) (A2 : Option Addr) (c2 : Nat), i ≤ m ∧ s9 = .int .i64 i ∧ s8 = .slice A2 y.length c2 ∧ PL w c b1 b2 F g i y A2 y.length c2 wr) (fun _ s9 _ => m - (intOf s9).toNat)
      case atStart => exact ⟨0, F, [], none, 0, by omega, rfl, rfl, P0⟩
      case round =>
        clear P0
        obtain ⟨i, F1, y, A1, c1, hi, rfl, rfl, P⟩ := hrel
        by_cases hlt : i < m
        · obtain ⟨⟨d, ⟨⟨r, nn⟩, ⟨ck, cl, cq, ky, vl, rv⟩, sq⟩⟩, b, o, e1, ok, rfl, hce⟩ := (H.out.keep P.hb).at_ hlt
          have i0 : (0 : Int) ≤ (i : Int) := by omega
          have i1 : (i : Int) < (m : Int) := by omega
          have Hok := Lib.hid ok.2
          have c0 := hce 0 _ rfl
          have c1' := hce 1 _ rfl
          have c2' := hce 2 _ rfl
          have c3 := hce 3 _ rfl
          have c4 := hce 4 _ rfl
          have c5 := hce 5 _ rfl
          have c6 := hce 6 _ rfl
          have c7 := hce 7 _ rfl
          have c8 := hce 8 _ rfl
          have c9 := hce 9 _ rfl
          simp only [Nat.add_zero] at c0 c1' c2' c3 c4 c5 c6 c7 c8 c9
          clear hce ok e1
          have ka := below_one (w := wr) (.cells #[.int .i64 d, .int .i64 r, .int .i64 nn, .int .i64 ck, .int .i64 cl, .int .i64 cq, .string ky, .string vl, .int .i64 rv, .int .i64 sq] 34)
          have AB := Blk.new wr 34 #[.int .i64 d, .int .i64 r, .int .i64 nn, .int .i64 ck, .int .i64 cl, .int .i64 cq, .string ky, .string vl, .int .i64 rv, .int .i64 sq]
          have P0 := P
          replace P := P.keep ka
          clear ka
          go_upto_region 9 with fail
          have hab : ∀ k, F1 k → k < wr.heap.size := P0.X.lt
          clear P0 c0 c1' c2' c3 c4 c5 c6 c7 c8 c9
          revert AB P hab
          generalize World.alloc wr _ = w6
          generalize wr.heap.size = ab
          intro AB P hab
          have ac := AB.cell
          by_cases hbig : 1152921504606846976 < sq
          · go_wp2_with (go_at_call 9; (with_reducible refine (haw _).mono ?_); rintro e9 w8 ⟨rfl, hb9⟩)
            go_ret
            exact ⟨rfl, below_call P.hb hb9 P.hb.size⟩
          have hdr := drop17_any A1 y.length c1 y r nn w6 P.ents (by have := P.len; omega)
          go_upto_region 12 with (go_at_call 11; (with_reducible refine hdr.mono ?_); rintro e9 w7 ⟨A7, m7, c7, rfl, rfl, O7, K7, hb7⟩)
          have hF6 := P.X.lt
          have hle7 := P.len
          have Hle7 := Lib.hid hle7
          have hlo := P.lo
          have hb7' := below_call P.hb hb7 P.hb.size
          have C7 := P.C.keep hb7
          have B7 := P.B.keep hb7
          have X7 := P.X.keep hb7
          have AB7 := AB.keep hb7
          have Kok : ∀ e ∈ y, EntOk e ∧ e.s ≤ 1152921504606846976 := P.ok
          have HK := Lib.hid Kok
          have hs6 := P.hb.size
          have hB6 := P.B.lt
          have O7' : w7.ownsRow (w.heap.size + 2) 38 9 (.slice A7 (dropE y (r, nn)).length c7) (dropE y (r, nn)).length (flatE (dropE y (r, nn))) := own_lowX O7 (by omega)
          have n7 : ∀ k, (.slice A7 (dropE y (r, nn)).length c7 : Value).ownBlock = some k → ¬ F1 k := fun k hk hf => by
            have h1 := (O7.lt k hk).1
            have h2 := hF6 k hf
            omega
          have HO7 := Lib.hid O7'
          have Hn7 := Lib.hid n7
          have Hlo := Lib.hid hlo
          have Hab := Lib.hid hab
          clear hdr P AB hb7 O7 K7 O7' n7 hlo hab hF6 hle7 Kok ac
          have ac := AB7.cell
          by_cases d0 : d = 0
          · subst d0
            have hput := ixput_any F1 g i y r nn ⟨ck, cl, cq, ky, vl, rv⟩ sq w7 X7 Hok.out.1 Hok.out.2.1 Hok.out.2.2 (by omega)
            simp only [CmdT.v] at hput
            go_upto_region 14 with (go_at_call 12; (with_reducible refine hput.mono ?_); rintro e9 w8 hd8; obtain rfl := hd8.1; obtain ⟨_, F2, X8, hF8, t8⟩ := hd8)
            have hX7 := X7.lt
            have hs7 := hb7'.size
            have hb8 := Turn.below hb7' t8 (fun k hk => by have := Hlo.out k hk; omega) hs7
            have C8 := t8.blk C7 (fun hk => by have := Hlo.out _ hk; omega)
            have B8 := t8.blk B7 (fun hk => by have := Hlo.out _ hk; omega)
            have AB8 := t8.blk AB7 (fun hk => by have := Hab.out _ hk; omega)
            have O8 := ownX_turn HO7.out t8 (fun k hk => Hn7.out k hk)
            have n8 : ∀ k, (.slice A7 (dropE y (r, nn)).length c7 : Value).ownBlock = some k → ¬ F2 k := fun k hk hf => by
              rcases hF8 k hf with h1 | h1
              · exact Hn7.out k hk h1
              · have := (HO7.out.lt k hk).2; omega
            have hlo8 : ∀ k, F2 k → w.heap.size + 2 ≤ k := fun k hk => by
              rcases hF8 k hk with h1 | h1
              · exact Hlo.out k h1
              · have := B7.lt; omega
            have hX8 := X8.lt
            have hs8 := hb8.size
            have hB8 := B8.lt
            have ka8 := below_one (w := w8) (.cells #[.int .i64 r, .int .i64 nn, .int .i64 ck, .int .i64 cl, .int .i64 cq, .string ky, .string vl, .int .i64 rv, .int .i64 sq] 38)
            have hsrc := src_ent (w := w8) (e := 38) ⟨(r, nn), ⟨ck, cl, cq, ky, vl, rv⟩, sq⟩
            have hownA := ownX_keep O8 ka8
            have Hn8 := Lib.hid n8
            have Hlo8 := Lib.hid hlo8
            have HX8 := Lib.hid hX8
            clear ac t8 hF8 C7 B7 AB7 X7 n8 hlo8 hX7 hX8 hput hb7' O8
            have ac := AB8.cell
            have hl7 : (dropE y (r, nn)).length ≤ 60 := by have h1 := dropE_le y (r, nn); have h2 := Hle7.out; omega
            go_upto_region 16 with ((at_builtin; go_loud (refine wpList_app _ rfl (.tmp 48) (.tmp 56) 32 rfl _ 38 j0 _ 9 88 Try.underlying32 hj0 hjz0 hjzz hjz2 rfl (by omega) _ _ _ rfl hownA _ _ _ _ rfl hsrc ?h63 ?hby ?hbase ?_); (case h63 => (unfold maxLen; first | omega | (simp; done) | (simp; omega))); (case hby => first | omega | (simp; done) | (simp; omega)); (case hbase => first | omega | (simp; done) | (simp; omega)); intro v9 w9 hownw9 hgroww9 hatw9 holdw9); obtain ⟨A2, c2, rfl, _, _⟩ := ownX_form hownw9)
            have hlen : (dropE y (r, nn)).length + 1 = (putE y ⟨(r, nn), ⟨ck, cl, cq, ky, vl, rv⟩, sq⟩).length := by simp [putE]
            rw [hlen] at hownw9 hatw9 ⊢
            have P : PL w c b1 b2 F2 g (i + 1) (putE y ⟨(r, nn), ⟨ck, cl, cq, ky, vl, rv⟩, sq⟩) A2 (putE y ⟨(r, nn), ⟨ck, cl, cq, ky, vl, rv⟩, sq⟩).length c2 w9 := by
              have tA := Turn.of_grown (F := fun k => (.slice A7 (dropE y (r, nn)).length c7 : Value).ownBlock = some k) hgroww9 fun k hk => hk
              refine ⟨below_app (below_call hb8 ka8 hs8) hownA hgroww9 (by omega) (by simp; omega), blk_appX (C8.keep ka8) hownA hgroww9 (by omega), blk_appX (B8.keep ka8) hownA hgroww9 (by omega), (X8.keep ka8).turn tA (fun k hk hb => Hn8.out k hb hk), Hlo8.out, ?_, fun k hk hf => ?_, fun e he => ?_, ⟨rfl, ?_, by have := Hle7.out; omega⟩⟩
              · rw [show flatE (putE y ⟨(r, nn), ⟨ck, cl, cq, ky, vl, rv⟩, sq⟩) = flatE (dropE y (r, nn)) ++ eL ⟨(r, nn), ⟨ck, cl, cq, ky, vl, rv⟩, sq⟩ from flatE_snoc _ _]
                exact hownw9
              · rcases hatw9 with h1 | h1
                · exact Hn8.out k (h1.symm.trans hk) hf
                · rw [h1] at hk
                  injection hk with hk
                  have h2 := HX8.out k hf
                  simp only [World.size_alloc] at hk
                  omega
              · rcases List.mem_append.1 he with he | he
                · exact HK.out e (mem_dropE.1 he).1
                · simp at he
                  subst he
                  exact ⟨Hok.out, by simp only; omega⟩
              · have h1 := putE_le y ⟨(r, nn), ⟨ck, cl, cq, ky, vl, rv⟩, sq⟩
                have h2 := Hle7.out
                omega
            clear X8 C8 B8 AB8 hownA hownw9 hgroww9 hatw9 holdw9 hsrc ka8 hb8 ac hlen
            generalize putE y ⟨(r, nn), ⟨ck, cl, cq, ky, vl, rv⟩, sq⟩ = y2 at P ⊢
            have hl2 := P.len
            have hl2' : y2.length ≤ 60 := by omega
            have hl16 := fun W (h : IxAt W F2 g y2 (i + 1)) => ixlen_any F2 g _ y2 W h
            have hd16 := fun W (h : IxAt W F2 g y2 (i + 1)) => ixdeps_any F2 g _ y2 c b1 b2 W h Hc.out (by omega)
            have hs16 := fun W (h : IxAt W F2 g y2 (i + 1)) => ixseq_any F2 g _ y2 c b1 b2 W h Hc.out (by omega) (fun e he => (P.ok e he).2)
            have hrd := fun W (h : EntsAt W A2 y2.length y2) => deps17_any A2 _ c2 y2 c b1 b2 W h Hc.out (by omega)
            have hrs := fun W (h : EntsAt W A2 y2.length y2) => seq17_any A2 _ c2 y2 c b1 b2 W h Hc.out (by omega) (fun e he => (P.ok e he).2)
            have heq := fun A5 m5 c5 A6 m6 c6 l5 W (h5 : IdsAt W A5 m5 l5) (h6 : IdsAt W A6 m6 l5) => equal5_any A5 A6 m5 c5 m6 c6 l5 l5 W h5 h6
            unfold DepsP at hd16 hrd
            unfold CmdT.v at hd16 hs16 hrd hrs
            simp only [lseq_self] at heq
            generalize depsE y2 c (b1, b2) = dd at hd16 hrd
            generalize seqE y2 c (b1, b2) = ss at hs16 hrs
            have Hl16 := Lib.hid hl16
            have Hd16 := Lib.hid hd16
            have Hs16 := Lib.hid hs16
            have Hrd := Lib.hid hrd
            have Hrs := Lib.hid hrs
            have Heq := Lib.hid heq
            clear hl16 hd16 hs16 hrd hrs heq
            have EA := P.ents
            replace P := P.keep (Below.refl _ _).drew
            replace EA := EA.keep (Below.refl _ _).drew
            (refine wp_region_held_drew (S := (SPl w.heap.size #[.int .i64 c.kind, .int .i64 c.client, .int .i64 c.seq, .string c.key, .string c.val, .int .i64 c.rev] (w.heap.size + 1) #[.int .i64 b1, .int .i64 b2])) (by kernel_rfl) ?_ (fun hHeld => ?_); (· exact ⟨P.C.cell, P.B.cell⟩))
            (refine take_op (i := 0) (v := ?_) rfl (by kernel_rfl) (by kernel_rfl) (by kernel_rfl) (fun _ _ _ h => h) (by rfl) ?_ hHeld ?_; rotate_left; (· (intro wS hSw; (try dsimp only at hSw); go_simp; first | done | with_reducible rfl)); simp only [Act.put, List.setIfInBounds_toArray, List.set_cons_zero, List.set_cons_succ]); (refine take_op (i := 2) (v := ?_) rfl (by kernel_rfl) (by kernel_rfl) (by kernel_rfl) (fun _ _ _ h => h) (by rfl) ?_ hHeld ?_; rotate_left; (· (intro wS hSw; (try dsimp only at hSw); go_simp; first | done | with_reducible rfl)); simp only [Act.put, List.setIfInBounds_toArray, List.set_cons_zero, List.set_cons_succ]); (refine take_op (i := 3) (v := ?_) rfl (by kernel_rfl) (by kernel_rfl) (by kernel_rfl) (fun _ _ _ h => h) (by rfl) ?_ hHeld ?_; rotate_left; (· (intro wS hSw; (try dsimp only at hSw); go_simp; first | done | with_reducible rfl)); simp only [Act.put, List.setIfInBounds_toArray, List.set_cons_zero, List.set_cons_succ])
            (refine call_op (i := 1) rfl (by kernel_rfl) (by rfl) (fun K hK => ?_); go_simp; (go_at_call 14; (with_reducible refine (Hl16.out _ P.X).mono ?_); rintro e9 w9 ⟨rfl, hb9⟩; replace P := P.keep hb9; replace EA := EA.keep hb9; clear hb9); refine hK.out _ _ ⟨P.C.cell, P.B.cell⟩ (fun hHeld2 => ?_); clear hK K hHeld; have hHeld := hHeld2; clear hHeld2; (try simp only [Act.put, List.setIfInBounds_toArray, List.set_cons_zero, List.set_cons_succ]))
            (refine take_op (i := 4) (v := ?_) rfl (by kernel_rfl) (by kernel_rfl) (by kernel_rfl) (fun _ _ _ h => h) (by rfl) ?_ hHeld ?_; rotate_left; (· (intro wS hSw; (try dsimp only at hSw); go_simp; first | done | with_reducible rfl)); simp only [Act.put, List.setIfInBounds_toArray, List.set_cons_zero, List.set_cons_succ]); (refine take_op (i := 5) (v := ?_) rfl (by kernel_rfl) (by kernel_rfl) (by kernel_rfl) (fun _ _ _ h => h) (by rfl) ?_ hHeld ?_; rotate_left; (· (intro wS hSw; (try dsimp only at hSw); go_simp; first | done | with_reducible rfl)); simp only [Act.put, List.setIfInBounds_toArray, List.set_cons_zero, List.set_cons_succ]); (refine take_op (i := 6) (v := ?_) rfl (by kernel_rfl) (by kernel_rfl) (by kernel_rfl) (fun _ _ _ h => h) (by rfl) ?_ hHeld ?_; rotate_left; (· (intro wS hSw; (try dsimp only at hSw); go_simp; first | done | with_reducible rfl)); simp only [Act.put, List.setIfInBounds_toArray, List.set_cons_zero, List.set_cons_succ]); (refine take_op (i := 7) (v := ?_) rfl (by kernel_rfl) (by kernel_rfl) (by kernel_rfl) (fun _ _ _ h => h) (by rfl) ?_ hHeld ?_; rotate_left; (· (intro wS hSw; (try dsimp only at hSw); go_simp; first | done | with_reducible rfl)); simp only [Act.put, List.setIfInBounds_toArray, List.set_cons_zero, List.set_cons_succ]); (refine take_op (i := 8) (v := ?_) rfl (by kernel_rfl) (by kernel_rfl) (by kernel_rfl) (fun _ _ _ h => h) (by rfl) ?_ hHeld ?_; rotate_left; (· (intro wS hSw; (try dsimp only at hSw); go_simp; first | done | with_reducible rfl)); simp only [Act.put, List.setIfInBounds_toArray, List.set_cons_zero, List.set_cons_succ]); (refine take_op (i := 10) (v := ?_) rfl (by kernel_rfl) (by kernel_rfl) (by kernel_rfl) (fun _ _ _ h => h) (by rfl) ?_ hHeld ?_; rotate_left; (· (intro wS hSw; (try dsimp only at hSw); go_simp; first | done | with_reducible rfl)); simp only [Act.put, List.setIfInBounds_toArray, List.set_cons_zero, List.set_cons_succ]); (refine take_op (i := 11) (v := ?_) rfl (by kernel_rfl) (by kernel_rfl) (by kernel_rfl) (fun _ _ _ h => h) (by rfl) ?_ hHeld ?_; rotate_left; (· (intro wS hSw; (try dsimp only at hSw); go_simp; first | done | with_reducible rfl)); simp only [Act.put, List.setIfInBounds_toArray, List.set_cons_zero, List.set_cons_succ]); (refine take_op (i := 12) (v := ?_) rfl (by kernel_rfl) (by kernel_rfl) (by kernel_rfl) (fun _ _ _ h => h) (by rfl) ?_ hHeld ?_; rotate_left; (· (intro wS hSw; (try dsimp only at hSw); go_simp; first | done | with_reducible rfl)); simp only [Act.put, List.setIfInBounds_toArray, List.set_cons_zero, List.set_cons_succ])
            (refine call_op (i := 9) rfl (by kernel_rfl) (by rfl) (fun K hK => ?_); go_simp; (go_at_call 16; (with_reducible refine (Hd16.out _ P.X).mono ?_); rintro e9 w10 ⟨A5, c5, rfl, J5, hb9⟩; replace P := P.keep hb9; replace EA := EA.keep hb9; clear hb9); refine hK.out _ _ ⟨P.C.cell, P.B.cell⟩ (fun hHeld2 => ?_); clear hK K hHeld; have hHeld := hHeld2; clear hHeld2; (try simp only [Act.put, List.setIfInBounds_toArray, List.set_cons_zero, List.set_cons_succ]))
            (refine call_op (i := 13) rfl (by kernel_rfl) (by rfl) (fun K hK => ?_); go_simp; (go_at_call 17; (with_reducible refine (Hrd.out _ EA).mono ?_); rintro e9 w11 ⟨A6, c6, rfl, J6, hb9⟩; replace P := P.keep hb9; replace EA := EA.keep hb9; replace J5 := J5.keep hb9; clear hb9); refine hK.out _ _ ⟨P.C.cell, P.B.cell⟩ (fun hHeld2 => ?_); clear hK K hHeld; have hHeld := hHeld2; clear hHeld2; (try simp only [Act.put, List.setIfInBounds_toArray, List.set_cons_zero, List.set_cons_succ]))
            (refine call_op (i := 14) rfl (by kernel_rfl) (by rfl) (fun K hK => ?_); go_simp; (go_at_call 15; (with_reducible refine (Heq.out _ _ _ _ _ _ _ _ J5 J6).mono ?_); rintro e9 w12 ⟨rfl, hb9⟩; replace P := P.keep hb9; replace EA := EA.keep hb9; clear hb9); refine hK.out _ _ ⟨P.C.cell, P.B.cell⟩ (fun hHeld2 => ?_); clear hK K hHeld; have hHeld := hHeld2; clear hHeld2; (try simp only [Act.put, List.setIfInBounds_toArray, List.set_cons_zero, List.set_cons_succ]))
            clear J5 J6
            (refine take_op (i := 15) (v := ?_) rfl (by kernel_rfl) (by kernel_rfl) (by kernel_rfl) (fun _ _ _ h => h) (by rfl) ?_ hHeld ?_; rotate_left; (· (intro wS hSw; (try dsimp only at hSw); go_simp; first | done | with_reducible rfl)); simp only [Act.put, List.setIfInBounds_toArray, List.set_cons_zero, List.set_cons_succ]); (refine take_op (i := 16) (v := ?_) rfl (by kernel_rfl) (by kernel_rfl) (by kernel_rfl) (fun _ _ _ h => h) (by rfl) ?_ hHeld ?_; rotate_left; (· (intro wS hSw; (try dsimp only at hSw); go_simp; first | done | with_reducible rfl)); simp only [Act.put, List.setIfInBounds_toArray, List.set_cons_zero, List.set_cons_succ]); (refine take_op (i := 17) (v := ?_) rfl (by kernel_rfl) (by kernel_rfl) (by kernel_rfl) (fun _ _ _ h => h) (by rfl) ?_ hHeld ?_; rotate_left; (· (intro wS hSw; (try dsimp only at hSw); go_simp; first | done | with_reducible rfl)); simp only [Act.put, List.setIfInBounds_toArray, List.set_cons_zero, List.set_cons_succ]); (refine take_op (i := 18) (v := ?_) rfl (by kernel_rfl) (by kernel_rfl) (by kernel_rfl) (fun _ _ _ h => h) (by rfl) ?_ hHeld ?_; rotate_left; (· (intro wS hSw; (try dsimp only at hSw); go_simp; first | done | with_reducible rfl)); simp only [Act.put, List.setIfInBounds_toArray, List.set_cons_zero, List.set_cons_succ]); (refine take_op (i := 19) (v := ?_) rfl (by kernel_rfl) (by kernel_rfl) (by kernel_rfl) (fun _ _ _ h => h) (by rfl) ?_ hHeld ?_; rotate_left; (· (intro wS hSw; (try dsimp only at hSw); go_simp; first | done | with_reducible rfl)); simp only [Act.put, List.setIfInBounds_toArray, List.set_cons_zero, List.set_cons_succ]); (refine take_op (i := 20) (v := ?_) rfl (by kernel_rfl) (by kernel_rfl) (by kernel_rfl) (fun _ _ _ h => h) (by rfl) ?_ hHeld ?_; rotate_left; (· (intro wS hSw; (try dsimp only at hSw); go_simp; first | done | with_reducible rfl)); simp only [Act.put, List.setIfInBounds_toArray, List.set_cons_zero, List.set_cons_succ]); (refine take_op (i := 22) (v := ?_) rfl (by kernel_rfl) (by kernel_rfl) (by kernel_rfl) (fun _ _ _ h => h) (by rfl) ?_ hHeld ?_; rotate_left; (· (intro wS hSw; (try dsimp only at hSw); go_simp; first | done | with_reducible rfl)); simp only [Act.put, List.setIfInBounds_toArray, List.set_cons_zero, List.set_cons_succ]); (refine take_op (i := 23) (v := ?_) rfl (by kernel_rfl) (by kernel_rfl) (by kernel_rfl) (fun _ _ _ h => h) (by rfl) ?_ hHeld ?_; rotate_left; (· (intro wS hSw; (try dsimp only at hSw); go_simp; first | done | with_reducible rfl)); simp only [Act.put, List.setIfInBounds_toArray, List.set_cons_zero, List.set_cons_succ]); (refine take_op (i := 24) (v := ?_) rfl (by kernel_rfl) (by kernel_rfl) (by kernel_rfl) (fun _ _ _ h => h) (by rfl) ?_ hHeld ?_; rotate_left; (· (intro wS hSw; (try dsimp only at hSw); go_simp; first | done | with_reducible rfl)); simp only [Act.put, List.setIfInBounds_toArray, List.set_cons_zero, List.set_cons_succ])
            (refine call_op (i := 21) rfl (by kernel_rfl) (by rfl) (fun K hK => ?_); go_simp; (go_at_call 18; (with_reducible refine (Hs16.out _ P.X).mono ?_); rintro e9 w13 ⟨rfl, hb9⟩; replace P := P.keep hb9; replace EA := EA.keep hb9; clear hb9); refine hK.out _ _ ⟨P.C.cell, P.B.cell⟩ (fun hHeld2 => ?_); clear hK K hHeld; have hHeld := hHeld2; clear hHeld2; (try simp only [Act.put, List.setIfInBounds_toArray, List.set_cons_zero, List.set_cons_succ]))
            (refine call_op (i := 25) rfl (by kernel_rfl) (by rfl) (fun K hK => ?_); go_simp; (go_at_call 19; (with_reducible refine (Hrs.out _ EA).mono ?_); rintro e9 w14 ⟨rfl, hb9⟩; replace P := P.keep hb9; clear hb9 EA); refine hK.out _ _ ⟨P.C.cell, P.B.cell⟩ (fun hHeld2 => ?_); clear hK K hHeld; have hHeld := hHeld2; clear hHeld2; (try simp only [Act.put, List.setIfInBounds_toArray, List.set_cons_zero, List.set_cons_succ]))
            (refine take_op (i := 26) (v := ?_) rfl (by kernel_rfl) (by kernel_rfl) (by kernel_rfl) (fun _ _ _ h => h) (by rfl) ?_ hHeld ?_; rotate_left; (· (intro wS hSw; (try dsimp only at hSw); go_simp; first | done | with_reducible rfl)); simp only [Act.put, List.setIfInBounds_toArray, List.set_cons_zero, List.set_cons_succ]); (refine take_op (i := 27) (v := ?_) rfl (by kernel_rfl) (by kernel_rfl) (by kernel_rfl) (fun _ _ _ h => h) (by rfl) ?_ hHeld ?_; rotate_left; (· (intro wS hSw; (try dsimp only at hSw); go_simp; first | done | with_reducible rfl)); simp only [Act.put, List.setIfInBounds_toArray, List.set_cons_zero, List.set_cons_succ])
            (refine wpAnyH_done (by kernel_rfl) ?_ _)
            clear hHeld Hl16 Hd16 Hs16 Hrd Hrs Heq
            go_wp2_with fail
            go_roundw
            case rel => exact ⟨i + 1, F2, y2, A2, c2, by omega, by go_num, rfl, P⟩
            case measure => simp [intOf]; omega
          · have d0' : (d == 0) = false := by simp [d0]
            have hdp := ixdrop_any F1 g i y r nn w7 X7 Hok.out.1
            go_upto_region 16 with (go_at_call 13; (with_reducible refine hdp.mono ?_); rintro e9 w8 hd8; obtain rfl := hd8.1; obtain ⟨_, F2, X8, hF8, t8⟩ := hd8)
            have P : PL w c b1 b2 F2 g (i + 1) (dropE y (r, nn)) A7 (dropE y (r, nn)).length c7 w8 := by
              have hs7 := hb7'.size
              have h1 := dropE_le y (r, nn)
              have h2 := Hle7.out
              refine ⟨Turn.below hb7' t8 (fun k hk => by have := Hlo.out k hk; omega) hs7, t8.blk C7 (fun hk => by have := Hlo.out _ hk; omega), t8.blk B7 (fun hk => by have := Hlo.out _ hk; omega), X8.mono (by omega), fun k hk => ?_, ownX_turn HO7.out t8 (fun k hk => Hn7.out k hk), fun k hk hf => ?_, fun e he => HK.out e (mem_dropE.1 he).1, ⟨rfl, by omega, by omega⟩⟩
              · rcases hF8 k hk with h1 | h1
                · exact Hlo.out k h1
                · have := B7.lt; omega
              · rcases hF8 k hf with h1 | h1
                · exact Hn7.out k hk h1
                · have := (HO7.out.lt k hk).2; omega
            clear X8 t8 hF8 C7 B7 AB7 X7 hdp hb7' ac
            generalize dropE y (r, nn) = y2 at P HO7 Hn7 ⊢
            obtain ⟨A2, rfl⟩ : ∃ A2, A2 = A7 := ⟨_, rfl⟩
            obtain ⟨c2, rfl⟩ : ∃ c2, c2 = c7 := ⟨_, rfl⟩
            have hl2 := P.len
            have hl2' : y2.length ≤ 60 := by omega
            have hl16 := fun W (h : IxAt W F2 g y2 (i + 1)) => ixlen_any F2 g _ y2 W h
            have hd16 := fun W (h : IxAt W F2 g y2 (i + 1)) => ixdeps_any F2 g _ y2 c b1 b2 W h Hc.out (by omega)
            have hs16 := fun W (h : IxAt W F2 g y2 (i + 1)) => ixseq_any F2 g _ y2 c b1 b2 W h Hc.out (by omega) (fun e he => (P.ok e he).2)
            have hrd := fun W (h : EntsAt W A2 y2.length y2) => deps17_any A2 _ c2 y2 c b1 b2 W h Hc.out (by omega)
            have hrs := fun W (h : EntsAt W A2 y2.length y2) => seq17_any A2 _ c2 y2 c b1 b2 W h Hc.out (by omega) (fun e he => (P.ok e he).2)
            have heq := fun A5 m5 c5 A6 m6 c6 l5 W (h5 : IdsAt W A5 m5 l5) (h6 : IdsAt W A6 m6 l5) => equal5_any A5 A6 m5 c5 m6 c6 l5 l5 W h5 h6
            unfold DepsP at hd16 hrd
            unfold CmdT.v at hd16 hs16 hrd hrs
            simp only [lseq_self] at heq
            generalize depsE y2 c (b1, b2) = dd at hd16 hrd
            generalize seqE y2 c (b1, b2) = ss at hs16 hrs
            have Hl16 := Lib.hid hl16
            have Hd16 := Lib.hid hd16
            have Hs16 := Lib.hid hs16
            have Hrd := Lib.hid hrd
            have Hrs := Lib.hid hrs
            have Heq := Lib.hid heq
            clear hl16 hd16 hs16 hrd hrs heq
            have EA := P.ents
            replace P := P.keep (Below.refl _ _).drew
            replace EA := EA.keep (Below.refl _ _).drew
            (refine wp_region_held_drew (S := (SPl w.heap.size #[.int .i64 c.kind, .int .i64 c.client, .int .i64 c.seq, .string c.key, .string c.val, .int .i64 c.rev] (w.heap.size + 1) #[.int .i64 b1, .int .i64 b2])) (by kernel_rfl) ?_ (fun hHeld => ?_); (· exact ⟨P.C.cell, P.B.cell⟩))
            (refine take_op (i := 0) (v := ?_) rfl (by kernel_rfl) (by kernel_rfl) (by kernel_rfl) (fun _ _ _ h => h) (by rfl) ?_ hHeld ?_; rotate_left; (· (intro wS hSw; (try dsimp only at hSw); go_simp; first | done | with_reducible rfl)); simp only [Act.put, List.setIfInBounds_toArray, List.set_cons_zero, List.set_cons_succ]); (refine take_op (i := 2) (v := ?_) rfl (by kernel_rfl) (by kernel_rfl) (by kernel_rfl) (fun _ _ _ h => h) (by rfl) ?_ hHeld ?_; rotate_left; (· (intro wS hSw; (try dsimp only at hSw); go_simp; first | done | with_reducible rfl)); simp only [Act.put, List.setIfInBounds_toArray, List.set_cons_zero, List.set_cons_succ]); (refine take_op (i := 3) (v := ?_) rfl (by kernel_rfl) (by kernel_rfl) (by kernel_rfl) (fun _ _ _ h => h) (by rfl) ?_ hHeld ?_; rotate_left; (· (intro wS hSw; (try dsimp only at hSw); go_simp; first | done | with_reducible rfl)); simp only [Act.put, List.setIfInBounds_toArray, List.set_cons_zero, List.set_cons_succ])
            (refine call_op (i := 1) rfl (by kernel_rfl) (by rfl) (fun K hK => ?_); go_simp; (go_at_call 14; (with_reducible refine (Hl16.out _ P.X).mono ?_); rintro e9 w9 ⟨rfl, hb9⟩; replace P := P.keep hb9; replace EA := EA.keep hb9; clear hb9); refine hK.out _ _ ⟨P.C.cell, P.B.cell⟩ (fun hHeld2 => ?_); clear hK K hHeld; have hHeld := hHeld2; clear hHeld2; (try simp only [Act.put, List.setIfInBounds_toArray, List.set_cons_zero, List.set_cons_succ]))
            (refine take_op (i := 4) (v := ?_) rfl (by kernel_rfl) (by kernel_rfl) (by kernel_rfl) (fun _ _ _ h => h) (by rfl) ?_ hHeld ?_; rotate_left; (· (intro wS hSw; (try dsimp only at hSw); go_simp; first | done | with_reducible rfl)); simp only [Act.put, List.setIfInBounds_toArray, List.set_cons_zero, List.set_cons_succ]); (refine take_op (i := 5) (v := ?_) rfl (by kernel_rfl) (by kernel_rfl) (by kernel_rfl) (fun _ _ _ h => h) (by rfl) ?_ hHeld ?_; rotate_left; (· (intro wS hSw; (try dsimp only at hSw); go_simp; first | done | with_reducible rfl)); simp only [Act.put, List.setIfInBounds_toArray, List.set_cons_zero, List.set_cons_succ]); (refine take_op (i := 6) (v := ?_) rfl (by kernel_rfl) (by kernel_rfl) (by kernel_rfl) (fun _ _ _ h => h) (by rfl) ?_ hHeld ?_; rotate_left; (· (intro wS hSw; (try dsimp only at hSw); go_simp; first | done | with_reducible rfl)); simp only [Act.put, List.setIfInBounds_toArray, List.set_cons_zero, List.set_cons_succ]); (refine take_op (i := 7) (v := ?_) rfl (by kernel_rfl) (by kernel_rfl) (by kernel_rfl) (fun _ _ _ h => h) (by rfl) ?_ hHeld ?_; rotate_left; (· (intro wS hSw; (try dsimp only at hSw); go_simp; first | done | with_reducible rfl)); simp only [Act.put, List.setIfInBounds_toArray, List.set_cons_zero, List.set_cons_succ]); (refine take_op (i := 8) (v := ?_) rfl (by kernel_rfl) (by kernel_rfl) (by kernel_rfl) (fun _ _ _ h => h) (by rfl) ?_ hHeld ?_; rotate_left; (· (intro wS hSw; (try dsimp only at hSw); go_simp; first | done | with_reducible rfl)); simp only [Act.put, List.setIfInBounds_toArray, List.set_cons_zero, List.set_cons_succ]); (refine take_op (i := 10) (v := ?_) rfl (by kernel_rfl) (by kernel_rfl) (by kernel_rfl) (fun _ _ _ h => h) (by rfl) ?_ hHeld ?_; rotate_left; (· (intro wS hSw; (try dsimp only at hSw); go_simp; first | done | with_reducible rfl)); simp only [Act.put, List.setIfInBounds_toArray, List.set_cons_zero, List.set_cons_succ]); (refine take_op (i := 11) (v := ?_) rfl (by kernel_rfl) (by kernel_rfl) (by kernel_rfl) (fun _ _ _ h => h) (by rfl) ?_ hHeld ?_; rotate_left; (· (intro wS hSw; (try dsimp only at hSw); go_simp; first | done | with_reducible rfl)); simp only [Act.put, List.setIfInBounds_toArray, List.set_cons_zero, List.set_cons_succ]); (refine take_op (i := 12) (v := ?_) rfl (by kernel_rfl) (by kernel_rfl) (by kernel_rfl) (fun _ _ _ h => h) (by rfl) ?_ hHeld ?_; rotate_left; (· (intro wS hSw; (try dsimp only at hSw); go_simp; first | done | with_reducible rfl)); simp only [Act.put, List.setIfInBounds_toArray, List.set_cons_zero, List.set_cons_succ])
            (refine call_op (i := 9) rfl (by kernel_rfl) (by rfl) (fun K hK => ?_); go_simp; (go_at_call 16; (with_reducible refine (Hd16.out _ P.X).mono ?_); rintro e9 w10 ⟨A5, c5, rfl, J5, hb9⟩; replace P := P.keep hb9; replace EA := EA.keep hb9; clear hb9); refine hK.out _ _ ⟨P.C.cell, P.B.cell⟩ (fun hHeld2 => ?_); clear hK K hHeld; have hHeld := hHeld2; clear hHeld2; (try simp only [Act.put, List.setIfInBounds_toArray, List.set_cons_zero, List.set_cons_succ]))
            (refine call_op (i := 13) rfl (by kernel_rfl) (by rfl) (fun K hK => ?_); go_simp; (go_at_call 17; (with_reducible refine (Hrd.out _ EA).mono ?_); rintro e9 w11 ⟨A6, c6, rfl, J6, hb9⟩; replace P := P.keep hb9; replace EA := EA.keep hb9; replace J5 := J5.keep hb9; clear hb9); refine hK.out _ _ ⟨P.C.cell, P.B.cell⟩ (fun hHeld2 => ?_); clear hK K hHeld; have hHeld := hHeld2; clear hHeld2; (try simp only [Act.put, List.setIfInBounds_toArray, List.set_cons_zero, List.set_cons_succ]))
            (refine call_op (i := 14) rfl (by kernel_rfl) (by rfl) (fun K hK => ?_); go_simp; (go_at_call 15; (with_reducible refine (Heq.out _ _ _ _ _ _ _ _ J5 J6).mono ?_); rintro e9 w12 ⟨rfl, hb9⟩; replace P := P.keep hb9; replace EA := EA.keep hb9; clear hb9); refine hK.out _ _ ⟨P.C.cell, P.B.cell⟩ (fun hHeld2 => ?_); clear hK K hHeld; have hHeld := hHeld2; clear hHeld2; (try simp only [Act.put, List.setIfInBounds_toArray, List.set_cons_zero, List.set_cons_succ]))
            clear J5 J6
            (refine take_op (i := 15) (v := ?_) rfl (by kernel_rfl) (by kernel_rfl) (by kernel_rfl) (fun _ _ _ h => h) (by rfl) ?_ hHeld ?_; rotate_left; (· (intro wS hSw; (try dsimp only at hSw); go_simp; first | done | with_reducible rfl)); simp only [Act.put, List.setIfInBounds_toArray, List.set_cons_zero, List.set_cons_succ]); (refine take_op (i := 16) (v := ?_) rfl (by kernel_rfl) (by kernel_rfl) (by kernel_rfl) (fun _ _ _ h => h) (by rfl) ?_ hHeld ?_; rotate_left; (· (intro wS hSw; (try dsimp only at hSw); go_simp; first | done | with_reducible rfl)); simp only [Act.put, List.setIfInBounds_toArray, List.set_cons_zero, List.set_cons_succ]); (refine take_op (i := 17) (v := ?_) rfl (by kernel_rfl) (by kernel_rfl) (by kernel_rfl) (fun _ _ _ h => h) (by rfl) ?_ hHeld ?_; rotate_left; (· (intro wS hSw; (try dsimp only at hSw); go_simp; first | done | with_reducible rfl)); simp only [Act.put, List.setIfInBounds_toArray, List.set_cons_zero, List.set_cons_succ]); (refine take_op (i := 18) (v := ?_) rfl (by kernel_rfl) (by kernel_rfl) (by kernel_rfl) (fun _ _ _ h => h) (by rfl) ?_ hHeld ?_; rotate_left; (· (intro wS hSw; (try dsimp only at hSw); go_simp; first | done | with_reducible rfl)); simp only [Act.put, List.setIfInBounds_toArray, List.set_cons_zero, List.set_cons_succ]); (refine take_op (i := 19) (v := ?_) rfl (by kernel_rfl) (by kernel_rfl) (by kernel_rfl) (fun _ _ _ h => h) (by rfl) ?_ hHeld ?_; rotate_left; (· (intro wS hSw; (try dsimp only at hSw); go_simp; first | done | with_reducible rfl)); simp only [Act.put, List.setIfInBounds_toArray, List.set_cons_zero, List.set_cons_succ]); (refine take_op (i := 20) (v := ?_) rfl (by kernel_rfl) (by kernel_rfl) (by kernel_rfl) (fun _ _ _ h => h) (by rfl) ?_ hHeld ?_; rotate_left; (· (intro wS hSw; (try dsimp only at hSw); go_simp; first | done | with_reducible rfl)); simp only [Act.put, List.setIfInBounds_toArray, List.set_cons_zero, List.set_cons_succ]); (refine take_op (i := 22) (v := ?_) rfl (by kernel_rfl) (by kernel_rfl) (by kernel_rfl) (fun _ _ _ h => h) (by rfl) ?_ hHeld ?_; rotate_left; (· (intro wS hSw; (try dsimp only at hSw); go_simp; first | done | with_reducible rfl)); simp only [Act.put, List.setIfInBounds_toArray, List.set_cons_zero, List.set_cons_succ]); (refine take_op (i := 23) (v := ?_) rfl (by kernel_rfl) (by kernel_rfl) (by kernel_rfl) (fun _ _ _ h => h) (by rfl) ?_ hHeld ?_; rotate_left; (· (intro wS hSw; (try dsimp only at hSw); go_simp; first | done | with_reducible rfl)); simp only [Act.put, List.setIfInBounds_toArray, List.set_cons_zero, List.set_cons_succ]); (refine take_op (i := 24) (v := ?_) rfl (by kernel_rfl) (by kernel_rfl) (by kernel_rfl) (fun _ _ _ h => h) (by rfl) ?_ hHeld ?_; rotate_left; (· (intro wS hSw; (try dsimp only at hSw); go_simp; first | done | with_reducible rfl)); simp only [Act.put, List.setIfInBounds_toArray, List.set_cons_zero, List.set_cons_succ])
            (refine call_op (i := 21) rfl (by kernel_rfl) (by rfl) (fun K hK => ?_); go_simp; (go_at_call 18; (with_reducible refine (Hs16.out _ P.X).mono ?_); rintro e9 w13 ⟨rfl, hb9⟩; replace P := P.keep hb9; replace EA := EA.keep hb9; clear hb9); refine hK.out _ _ ⟨P.C.cell, P.B.cell⟩ (fun hHeld2 => ?_); clear hK K hHeld; have hHeld := hHeld2; clear hHeld2; (try simp only [Act.put, List.setIfInBounds_toArray, List.set_cons_zero, List.set_cons_succ]))
            (refine call_op (i := 25) rfl (by kernel_rfl) (by rfl) (fun K hK => ?_); go_simp; (go_at_call 19; (with_reducible refine (Hrs.out _ EA).mono ?_); rintro e9 w14 ⟨rfl, hb9⟩; replace P := P.keep hb9; clear hb9 EA); refine hK.out _ _ ⟨P.C.cell, P.B.cell⟩ (fun hHeld2 => ?_); clear hK K hHeld; have hHeld := hHeld2; clear hHeld2; (try simp only [Act.put, List.setIfInBounds_toArray, List.set_cons_zero, List.set_cons_succ]))
            (refine take_op (i := 26) (v := ?_) rfl (by kernel_rfl) (by kernel_rfl) (by kernel_rfl) (fun _ _ _ h => h) (by rfl) ?_ hHeld ?_; rotate_left; (· (intro wS hSw; (try dsimp only at hSw); go_simp; first | done | with_reducible rfl)); simp only [Act.put, List.setIfInBounds_toArray, List.set_cons_zero, List.set_cons_succ]); (refine take_op (i := 27) (v := ?_) rfl (by kernel_rfl) (by kernel_rfl) (by kernel_rfl) (fun _ _ _ h => h) (by rfl) ?_ hHeld ?_; rotate_left; (· (intro wS hSw; (try dsimp only at hSw); go_simp; first | done | with_reducible rfl)); simp only [Act.put, List.setIfInBounds_toArray, List.set_cons_zero, List.set_cons_succ])
            (refine wpAnyH_done (by kernel_rfl) ?_ _)
            clear hHeld Hl16 Hd16 Hs16 Hrd Hrs Heq
            go_wp2_with fail
            go_roundw
            case rel => exact ⟨i + 1, F2, y2, A2, c2, by omega, by go_num, rfl, P⟩
            case measure => simp [intOf]; omega
        · have nk : ¬ (i : Int) < (m : Int) := by omega
          go_wp2_with (go_at_call 9; (with_reducible refine (haw _).mono ?_); rintro e9 w8 ⟨rfl, hb9⟩)
          go_ret
          exact ⟨rfl, below_call P.hb hb9 P.hb.size⟩
    · go_wp2_with (go_at_call 9; (with_reducible refine (haw _).mono ?_); rintro e9 w8 ⟨rfl, hb9⟩)
      go_ret
      exact ⟨rfl, below_call kx hb9 kx.size⟩
end Go.Proofs.Ytpdfbkkhmfnnjaa
