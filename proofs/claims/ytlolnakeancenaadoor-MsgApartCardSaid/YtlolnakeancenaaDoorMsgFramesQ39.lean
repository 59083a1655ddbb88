/- A message that was read is one that lies right: plain. The walk of msg.Check. -/
import Derived.Test.YtlolnakeancenaaDoorMsgFramesQ30
import Derived.Test.YtlolnakeancenaaDoorMsgFramesQ15
import Derived.Test.YtlolnakeancenaaDoorMsgFramesQ38
import Derived.WalkKit
import Derived.WalkSpells
import Derived.WalkLawsBesides
import Derived.Deep.RegionHeld3
import Derived.Deep.DrawnRows
import Derived.Deep.DeepCutAuto
import Derived.Deep.DeepFit
import Derived.Lib.Hide
import Derived.BigQuiet
import Derived.Deep.QuietTactic
namespace Go.Proofs.YtlolnakeancenaaDoor
open Go.RowKit
set_option linter.unusedVariables false
set_option linter.unusedSimpArgs false
set_option maxRecDepth 20000
attribute [local go_sem ↓] Go.wp_at_zero Go.wp_at_succ
attribute [local go_sem] World.cell?_alloc_some frozen_alloc_some

theorem wf_clamp (n : Nat) : (Lit.int .i64 ((clamp n : Nat) : Int)).wf = true := by
 exact clamp_wf n
theorem wf_cnum (t : Tree) : (Lit.int .i64 ((cnum t : Nat) : Int)).wf = true := by
 cases t
 exact wf_clamp _
theorem wf_pnum (L : List Tree) (i : Nat) : (Lit.int .i64 (pnum L i)).wf = true := wf_clamp _
theorem wf_btake (t : Tree) : (Lit.int .i64 (btake t).1).wf = true ∧ (Lit.int .i64 (btake t).2.1).wf = true := by
 unfold btake
 split
 ·split
  ·exact ⟨wf_clamp _, wf_clamp _⟩
  ·exact ⟨by decide, by decide⟩
 ·exact ⟨by decide, by decide⟩
theorem wf_ctake (t : Tree) : (Lit.int .i64 (ctake t).k).wf = true ∧ (Lit.int .i64 (ctake t).c).wf = true ∧ (Lit.int .i64 (ctake t).q).wf = true ∧ (Lit.int .i64 (ctake t).r).wf = true := by
 unfold ctake
 split
 ·unfold ctk
  split
  ·exact ⟨wf_cnum _, wf_cnum _, wf_cnum _, wf_cnum _⟩
  ·exact ⟨by decide, by decide, by decide, by decide⟩
 ·exact ⟨by decide, by decide, by decide, by decide⟩
theorem wf_atake (t : Tree) : (Lit.int .i64 ((atake t).getD azero).q).wf = true ∧ (Lit.int .i64 ((atake t).getD azero).t).wf = true := by
 unfold atake
 split
 ·unfold aTk
  split
  ·exact ⟨wf_clamp _, wf_clamp _⟩
  ·exact ⟨by decide, by decide⟩
 ·exact ⟨by decide, by decide⟩
theorem size_ctake {w : World} {t : Tree} {v : Value} (h : Holds w t v) : (ctake t).y.size ≤ maxLen ∧ (ctake t).x.size ≤ maxLen := by
 have hx : ∀ {k : Int} {n : Nat} {s : ByteArray} {l : List Tree}, Holds w (.mk k n s l) v → ∀ u ∈ l, (ctxt u).size ≤ maxLen := fun h u hu => by
  obtain ⟨A, m, c, rfl, _⟩ := h.open_
  obtain ⟨i, hi, e⟩ := List.getElem_of_mem hu
  obtain ⟨ad, u', _, hv, _⟩ := h.elem (i := i) (by rw [List.getElem?_eq_getElem hi, e])
  obtain ⟨k2, n2, s2, l2⟩ := u
  obtain ⟨_, _, _, _, _, _, hs, _⟩ := hv.open_
  exact hs
 unfold ctake
 split
 ·unfold ctk
  split
  ·exact ⟨hx h _ (by simp), hx h _ (by simp)⟩
  ·exact ⟨by decide, by decide⟩
 ·exact ⟨by decide, by decide⟩
theorem Items.holds {w : World} {A : Option Addr} {m c : Nat} {L : List Tree} (h : Items w A m c L) (i : Nat) : ∃ v, Holds w (pt L i) v := by
 cases e : L[i]? with
 | none => exact ⟨_, by unfold pt; rw [e]; exact holds_end w⟩
 | some t =>
  obtain ⟨_, _, _, vs, _, h5⟩ := h
  exact ⟨vs i, by unfold pt; rw [e]; exact h5 i t e⟩
theorem mread_ok {w0 w : World} {A0 A : Option Addr} {m0 c0 c : Nat} {L : List Tree} (h : Items w0 A0 m0 c0 L) (hI : IdsAt w A (mread L).l.length (mread L).l) (hc : (mread L).l.length ≤ c) : ((mread L).at A (mread L).l.length c).Ok w := by
 have hz : (Lit.int .i64 0).wf = true := by decide
 have ife : ∀ (b : Bool) (x : Int), (Lit.int .i64 x).wf = true → (Lit.int .i64 (if b = true then x else 0)).wf = true := fun b x hx => by
  cases b
  ·exact hz
  ·exact hx
 have txs : ∀ (b : Bool) (x : ByteArray), x.size ≤ maxLen → (if b = true then x else ⟨#[]⟩ : ByteArray).size ≤ maxLen := fun b x hx => by
  cases b
  ·exact (Nat.zero_le _ : 0 ≤ maxLen)
  ·exact hx
 unfold mread at hI hc ⊢
 split at hI
 ·next hk =>
  rw [if_pos hk] at hc ⊢
  obtain ⟨v, hv⟩ := h.holds (if kSt (pnum L 0) then 6 else if kBal (pnum L 0) then 4 else 3)
  obtain ⟨s1, s2⟩ := size_ctake hv
  obtain ⟨b1, b2⟩ := wf_btake (pt L 3)
  obtain ⟨b3, b4⟩ := wf_btake (pt L 5)
  obtain ⟨c1, c2, c3, c4⟩ := wf_ctake (pt L (if kSt (pnum L 0) then 6 else if kBal (pnum L 0) then 4 else 3))
  exact ⟨wf_pnum L 0, ife _ _ (wf_pnum L 1), ife _ _ (wf_pnum L 2), ife _ _ b1, ife _ _ b2, ife _ _ b3, ife _ _ b4, ife _ _ (wf_pnum L 4), ife _ _ c1, ife _ _ c2, ife _ _ c3, txs _ _ s1, txs _ _ s2, ife _ _ c4, hc, hc, hI, ife _ _ (wf_atake _).1, ife _ _ (wf_atake _).2, ife _ _ (wf_pnum L 1)⟩
 ·next hk =>
  rw [if_neg hk] at hc ⊢
  exact ⟨wf_pnum L 0, hz, hz, hz, hz, hz, hz, hz, hz, hz, hz, (Nat.zero_le _ : 0 ≤ maxLen), (Nat.zero_le _ : 0 ≤ maxLen), hz, hc, hc, hI, hz, hz, hz⟩
end Go.Proofs.YtlolnakeancenaaDoor

namespace Go.Proofs.YtlolnakeancenaaDoor
open Go.RowKit
set_option linter.unusedVariables false
set_option linter.unusedSimpArgs false
set_option maxRecDepth 20000
attribute [local go_sem ↓] Go.wp_at_zero Go.wp_at_succ
attribute [local go_sem] World.cell?_alloc_some frozen_alloc_some
attribute [local go_sem ↓ high] loadVar_msg storeVar_msg msg_store_new

/-- Is a message right? -/
def mok (a : MsgT) : Bool := decide (1 ≤ a.k ∧ a.k < 10) && (msame a (plainM a) && mright a)
def mErr (b : Bool) : Int := if b then 0 else 4
theorem plain_ids {w : World} {a : MsgT} (h : IdsAt w a.A a.m a.l) : IdsAt w (plainM a).A (plainM a).m (plainM a).l := by
 unfold plainM plainF
 dsimp only
 split
 ·exact h
 ·exact IdsAt.nil
set_option maxHeartbeats 4000000 in
theorem check10_any (M : MsgT) (w : World) (hK : KindsAt w) (ha : M.Ok w) (hT : Tabs w) : Calls Tryd.prog 25 #[M.v] w (Gives w (.int .i64 (mErr (mok M)))) := by
 have hkn := fun W => known_any M.k W
 have hpl := fun (hk : 1 ≤ M.k ∧ M.k < 10) W (h : Below w.heap.size w W) => plain10_any M W hk (hK.keep h)
 have hsm := fun W (h : Below w.heap.size w W) => msgsame_any M (plainM M) W (ha.l.keep h) (plain_ids (ha.l.keep h))
 have hri := fun (hk : 1 ≤ M.k ∧ M.k < 10) W (h : Below w.heap.size w W) => right10_any M W hk (hK.keep h) (ha.keep h) (hT.keep h)
 obtain ⟨RES, hRES⟩ : ∃ x, mErr (mok M) = x := ⟨_, rfl⟩
 rw [hRES]
 unfold mok at hRES
 generalize mright M = r at *
 generalize msame M (plainM M) = s at *
 obtain ⟨PV, hPV⟩ : ∃ v, (plainM M).v = v := ⟨_, rfl⟩
 rw [hPV] at hsm
 simp only [hPV] at hpl
 clear hPV hK ha hT
 obtain ⟨k, i, n, br, bb, tr, tb, st, ck, cc, cq, cy, cx, cr, A, m, cap, sq, tg, ver, l⟩ := M
 simp only [MsgT.v] at hkn hpl hsm hri hRES ⊢
 have Hsm := Lib.hid hsm
 have X : Blk (w.alloc (.cells #[.int .i64 k, .int .i64 i, .int .i64 n, .int .i64 br, .int .i64 bb, .int .i64 tr, .int .i64 tb, .int .i64 st, .int .i64 ck, .int .i64 cc, .int .i64 cq, .string cy, .string cx, .int .i64 cr, .slice A m cap, .int .i64 sq, .int .i64 tg, .int .i64 ver] 50)).drew w.heap.size 50 #[.int .i64 k, .int .i64 i, .int .i64 n, .int .i64 br, .int .i64 bb, .int .i64 tr, .int .i64 tb, .int .i64 st, .int .i64 ck, .int .i64 cc, .int .i64 cq, .string cy, .string cx, .int .i64 cr, .slice A m cap, .int .i64 sq, .int .i64 tg, .int .i64 ver] := blk_drewp (Blk.new w _ _)
 have kk : Below w.heap.size w (w.alloc (.cells #[.int .i64 k, .int .i64 i, .int .i64 n, .int .i64 br, .int .i64 bb, .int .i64 tr, .int .i64 tb, .int .i64 st, .int .i64 ck, .int .i64 cc, .int .i64 cq, .string cy, .string cx, .int .i64 cr, .slice A m cap, .int .i64 sq, .int .i64 tg, .int .i64 ver] 50)).drew := (below_one _).drew
 by_cases hk : 1 ≤ k ∧ k < 10
 case neg =>
  rw [decide_eq_false hk] at hkn hRES
  simp only [Bool.false_and] at hRES
  have HRES := Lib.hid hRES
  clear hRES hpl hri Hsm hsm
  go_enter Tryd.func25, Tryd.ntmps25
  go_upto_region 1 with fail
  (refine wp_region_held_drew (S := (SM w.heap.size #[.int .i64 k, .int .i64 i, .int .i64 n, .int .i64 br, .int .i64 bb, .int .i64 tr, .int .i64 tb, .int .i64 st, .int .i64 ck, .int .i64 cc, .int .i64 cq, .string cy, .string cx, .int .i64 cr, .slice A m cap, .int .i64 sq, .int .i64 tg, .int .i64 ver])) (by kernel_rfl) ?_ (fun hHeld => ?_); (· exact X.sm))
  (refine take_op (i := 0) (v := ?_) rfl (by kernel_rfl) (by kernel_rfl) (by kernel_rfl) (fun _ _ _ h => h) (by rfl) ?_ hHeld ?_; rotate_left; (· (intro wS hSw; (try dsimp only at hSw); go_simp; first | done | with_reducible rfl)); simp only [Act.put, sta_, scz_, scs_]); (refine take_op (i := 1) (v := ?_) rfl (by kernel_rfl) (by kernel_rfl) (by kernel_rfl) (fun _ _ _ h => h) (by rfl) ?_ hHeld ?_; rotate_left; (· (intro wS hSw; (try dsimp only at hSw); go_simp; first | done | with_reducible rfl)); simp only [Act.put, sta_, scz_, scs_])
  revert hHeld X kk
  generalize World.drew _ = w0
  intro X kk hHeld
  (refine call_op (i := 2) rfl (by kernel_rfl) (by rfl) (fun K hK => ?_); go_simp; (go_at_call 42; (with_reducible refine (hkn _).mono ?_); rintro e w1 ⟨rfl, hb1⟩; replace X := X.keep hb1; replace kk := below_call kk hb1 kk.size); refine hK.out _ _ X.sm (fun hHeld2 => ?_); clear hK K hHeld; have hHeld := hHeld2; clear hHeld2; (try simp only [Act.put, sta_, scz_, scs_]))
  (refine take_op (i := 3) (v := ?_) rfl (by kernel_rfl) (by kernel_rfl) (by kernel_rfl) (fun _ _ _ h => h) (by rfl) ?_ hHeld ?_; rotate_left; (· (intro wS hSw; (try dsimp only at hSw); go_simp; first | done | with_reducible rfl)); simp only [Act.put, sta_, scz_, scs_]); (refine take_op (i := 4) (v := ?_) rfl (by kernel_rfl) (by kernel_rfl) (by kernel_rfl) (fun _ _ _ h => h) (by rfl) ?_ hHeld ?_; rotate_left; (· (intro wS hSw; (try dsimp only at hSw); go_simp; first | done | with_reducible rfl)); simp only [Act.put, sta_, scz_, scs_])
  (refine skip_op (i := 5) rfl (by kernel_rfl) (by kernel_rfl) (by kernel_rfl) (fun _ _ _ h => h) (by rfl) hHeld ?_; simp only [Act.put, sta_, scz_, scs_]); (refine skip_op (i := 6) rfl (by kernel_rfl) (by kernel_rfl) (by kernel_rfl) (fun _ _ _ h => h) (by rfl) hHeld ?_; simp only [Act.put, sta_, scz_, scs_]); (refine skip_op (i := 7) rfl (by kernel_rfl) (by kernel_rfl) (by kernel_rfl) (fun _ _ _ h => h) (by rfl) hHeld ?_; simp only [Act.put, sta_, scz_, scs_]); (refine skip_op (i := 8) rfl (by kernel_rfl) (by kernel_rfl) (by kernel_rfl) (fun _ _ _ h => h) (by rfl) hHeld ?_; simp only [Act.put, sta_, scz_, scs_]); (refine skip_op (i := 9) rfl (by kernel_rfl) (by kernel_rfl) (by kernel_rfl) (fun _ _ _ h => h) (by rfl) hHeld ?_; simp only [Act.put, sta_, scz_, scs_])
  (refine take_op (i := 10) (v := ?_) rfl (by kernel_rfl) (by kernel_rfl) (by kernel_rfl) (fun _ _ _ h => h) (by rfl) ?_ hHeld ?_; rotate_left; (· (intro wS hSw; (try dsimp only at hSw); go_simp; first | done | with_reducible rfl)); simp only [Act.put, sta_, scz_, scs_]); (refine take_op (i := 11) (v := ?_) rfl (by kernel_rfl) (by kernel_rfl) (by kernel_rfl) (fun _ _ _ h => h) (by rfl) ?_ hHeld ?_; rotate_left; (· (intro wS hSw; (try dsimp only at hSw); go_simp; first | done | with_reducible rfl)); simp only [Act.put, sta_, scz_, scs_])
  (refine skip_op (i := 12) rfl (by kernel_rfl) (by kernel_rfl) (by kernel_rfl) (fun _ _ _ h => h) (by rfl) hHeld ?_; simp only [Act.put, sta_, scz_, scs_]); (refine skip_op (i := 13) rfl (by kernel_rfl) (by kernel_rfl) (by kernel_rfl) (fun _ _ _ h => h) (by rfl) hHeld ?_; simp only [Act.put, sta_, scz_, scs_]); (refine skip_op (i := 14) rfl (by kernel_rfl) (by kernel_rfl) (by kernel_rfl) (fun _ _ _ h => h) (by rfl) hHeld ?_; simp only [Act.put, sta_, scz_, scs_])
  (refine take_op (i := 15) (v := ?_) rfl (by kernel_rfl) (by kernel_rfl) (by kernel_rfl) (fun _ _ _ h => h) (by rfl) ?_ hHeld ?_; rotate_left; (· (intro wS hSw; (try dsimp only at hSw); go_simp; first | done | with_reducible rfl)); simp only [Act.put, sta_, scz_, scs_])
  (refine wpAnyH_done (by kernel_rfl) ?_ _)
  clear hHeld
  go_wp2_with fail
  go_ret
  exact ⟨by rw [← HRES.out]; rfl, kk⟩
 rw [decide_eq_true hk] at hkn hRES
 have Hpl := Lib.hid (hpl hk)
 have Hri := Lib.hid (hri hk)
 have HRES := Lib.hid hRES
 clear hRES hpl hri hsm
 go_enter Tryd.func25, Tryd.ntmps25
 go_upto_region 1 with fail
 (refine wp_region_held_drew (S := (SM w.heap.size #[.int .i64 k, .int .i64 i, .int .i64 n, .int .i64 br, .int .i64 bb, .int .i64 tr, .int .i64 tb, .int .i64 st, .int .i64 ck, .int .i64 cc, .int .i64 cq, .string cy, .string cx, .int .i64 cr, .slice A m cap, .int .i64 sq, .int .i64 tg, .int .i64 ver])) (by kernel_rfl) ?_ (fun hHeld => ?_); (· exact X.sm))
 revert hHeld X kk
 generalize World.drew _ = w0
 intro X kk hHeld
 cases s
 ·(refine take_op (i := 0) (v := ?_) rfl (by kernel_rfl) (by kernel_rfl) (by kernel_rfl) (fun _ _ _ h => h) (by rfl) ?_ hHeld ?_; rotate_left; (· (intro wS hSw; (try dsimp only at hSw); go_simp; first | done | with_reducible rfl)); simp only [Act.put, sta_, scz_, scs_]); (refine take_op (i := 1) (v := ?_) rfl (by kernel_rfl) (by kernel_rfl) (by kernel_rfl) (fun _ _ _ h => h) (by rfl) ?_ hHeld ?_; rotate_left; (· (intro wS hSw; (try dsimp only at hSw); go_simp; first | done | with_reducible rfl)); simp only [Act.put, sta_, scz_, scs_])
  (refine call_op (i := 2) rfl (by kernel_rfl) (by rfl) (fun K hK => ?_); go_simp; (go_at_call 42; (with_reducible refine (hkn _).mono ?_); rintro e w1 ⟨rfl, hb1⟩; replace X := X.keep hb1; replace kk := below_call kk hb1 kk.size); refine hK.out _ _ X.sm (fun hHeld2 => ?_); clear hK K hHeld; have hHeld := hHeld2; clear hHeld2; (try simp only [Act.put, sta_, scz_, scs_]))
  (refine take_op (i := 3) (v := ?_) rfl (by kernel_rfl) (by kernel_rfl) (by kernel_rfl) (fun _ _ _ h => h) (by rfl) ?_ hHeld ?_; rotate_left; (· (intro wS hSw; (try dsimp only at hSw); go_simp; first | done | with_reducible rfl)); simp only [Act.put, sta_, scz_, scs_]); (refine take_op (i := 4) (v := ?_) rfl (by kernel_rfl) (by kernel_rfl) (by kernel_rfl) (fun _ _ _ h => h) (by rfl) ?_ hHeld ?_; rotate_left; (· (intro wS hSw; (try dsimp only at hSw); go_simp; first | done | with_reducible rfl)); simp only [Act.put, sta_, scz_, scs_]); (refine take_op (i := 5) (v := ?_) rfl (by kernel_rfl) (by kernel_rfl) (by kernel_rfl) (fun _ _ _ h => h) (by rfl) ?_ hHeld ?_; rotate_left; (· (intro wS hSw; (try dsimp only at hSw); go_simp; first | done | with_reducible rfl)); simp only [Act.put, sta_, scz_, scs_]); (refine take_op (i := 6) (v := ?_) rfl (by kernel_rfl) (by kernel_rfl) (by kernel_rfl) (fun _ _ _ h => h) (by rfl) ?_ hHeld ?_; rotate_left; (· (intro wS hSw; (try dsimp only at hSw); go_simp; first | done | with_reducible rfl)); simp only [Act.put, sta_, scz_, scs_])
  (refine call_op (i := 7) rfl (by kernel_rfl) (by rfl) (fun K hK => ?_); go_simp; (go_at_call 43; (with_reducible refine (Hpl.out _ kk).mono ?_); rintro e w2 ⟨rfl, hb2⟩; replace X := X.keep hb2; replace kk := below_call kk hb2 kk.size); refine hK.out _ _ X.sm (fun hHeld2 => ?_); clear hK K hHeld; have hHeld := hHeld2; clear hHeld2; (try simp only [Act.put, sta_, scz_, scs_]))
  (refine call_op (i := 8) rfl (by kernel_rfl) (by rfl) (fun K hK => ?_); go_simp; (go_at_call 20; (with_reducible refine (Hsm.out _ kk).mono ?_); rintro e w3 ⟨rfl, hb3⟩; replace X := X.keep hb3; replace kk := below_call kk hb3 kk.size); refine hK.out _ _ X.sm (fun hHeld2 => ?_); clear hK K hHeld; have hHeld := hHeld2; clear hHeld2; (try simp only [Act.put, sta_, scz_, scs_]))
  (refine take_op (i := 9) (v := ?_) rfl (by kernel_rfl) (by kernel_rfl) (by kernel_rfl) (fun _ _ _ h => h) (by rfl) ?_ hHeld ?_; rotate_left; (· (intro wS hSw; (try dsimp only at hSw); go_simp; first | done | with_reducible rfl)); simp only [Act.put, sta_, scz_, scs_]); (refine take_op (i := 10) (v := ?_) rfl (by kernel_rfl) (by kernel_rfl) (by kernel_rfl) (fun _ _ _ h => h) (by rfl) ?_ hHeld ?_; rotate_left; (· (intro wS hSw; (try dsimp only at hSw); go_simp; first | done | with_reducible rfl)); simp only [Act.put, sta_, scz_, scs_]); (refine take_op (i := 11) (v := ?_) rfl (by kernel_rfl) (by kernel_rfl) (by kernel_rfl) (fun _ _ _ h => h) (by rfl) ?_ hHeld ?_; rotate_left; (· (intro wS hSw; (try dsimp only at hSw); go_simp; first | done | with_reducible rfl)); simp only [Act.put, sta_, scz_, scs_])
  (refine skip_op (i := 12) rfl (by kernel_rfl) (by kernel_rfl) (by kernel_rfl) (fun _ _ _ h => h) (by rfl) hHeld ?_; simp only [Act.put, sta_, scz_, scs_]); (refine skip_op (i := 13) rfl (by kernel_rfl) (by kernel_rfl) (by kernel_rfl) (fun _ _ _ h => h) (by rfl) hHeld ?_; simp only [Act.put, sta_, scz_, scs_]); (refine skip_op (i := 14) rfl (by kernel_rfl) (by kernel_rfl) (by kernel_rfl) (fun _ _ _ h => h) (by rfl) hHeld ?_; simp only [Act.put, sta_, scz_, scs_])
  (refine take_op (i := 15) (v := ?_) rfl (by kernel_rfl) (by kernel_rfl) (by kernel_rfl) (fun _ _ _ h => h) (by rfl) ?_ hHeld ?_; rotate_left; (· (intro wS hSw; (try dsimp only at hSw); go_simp; first | done | with_reducible rfl)); simp only [Act.put, sta_, scz_, scs_])
  (refine wpAnyH_done (by kernel_rfl) ?_ _)
  clear hHeld
  go_wp2_with fail
  go_ret
  exact ⟨by rw [← HRES.out]; rfl, kk⟩
 ·(refine take_op (i := 0) (v := ?_) rfl (by kernel_rfl) (by kernel_rfl) (by kernel_rfl) (fun _ _ _ h => h) (by rfl) ?_ hHeld ?_; rotate_left; (· (intro wS hSw; (try dsimp only at hSw); go_simp; first | done | with_reducible rfl)); simp only [Act.put, sta_, scz_, scs_]); (refine take_op (i := 1) (v := ?_) rfl (by kernel_rfl) (by kernel_rfl) (by kernel_rfl) (fun _ _ _ h => h) (by rfl) ?_ hHeld ?_; rotate_left; (· (intro wS hSw; (try dsimp only at hSw); go_simp; first | done | with_reducible rfl)); simp only [Act.put, sta_, scz_, scs_])
  (refine call_op (i := 2) rfl (by kernel_rfl) (by rfl) (fun K hK => ?_); go_simp; (go_at_call 42; (with_reducible refine (hkn _).mono ?_); rintro e w1 ⟨rfl, hb1⟩; replace X := X.keep hb1; replace kk := below_call kk hb1 kk.size); refine hK.out _ _ X.sm (fun hHeld2 => ?_); clear hK K hHeld; have hHeld := hHeld2; clear hHeld2; (try simp only [Act.put, sta_, scz_, scs_]))
  (refine take_op (i := 3) (v := ?_) rfl (by kernel_rfl) (by kernel_rfl) (by kernel_rfl) (fun _ _ _ h => h) (by rfl) ?_ hHeld ?_; rotate_left; (· (intro wS hSw; (try dsimp only at hSw); go_simp; first | done | with_reducible rfl)); simp only [Act.put, sta_, scz_, scs_]); (refine take_op (i := 4) (v := ?_) rfl (by kernel_rfl) (by kernel_rfl) (by kernel_rfl) (fun _ _ _ h => h) (by rfl) ?_ hHeld ?_; rotate_left; (· (intro wS hSw; (try dsimp only at hSw); go_simp; first | done | with_reducible rfl)); simp only [Act.put, sta_, scz_, scs_]); (refine take_op (i := 5) (v := ?_) rfl (by kernel_rfl) (by kernel_rfl) (by kernel_rfl) (fun _ _ _ h => h) (by rfl) ?_ hHeld ?_; rotate_left; (· (intro wS hSw; (try dsimp only at hSw); go_simp; first | done | with_reducible rfl)); simp only [Act.put, sta_, scz_, scs_]); (refine take_op (i := 6) (v := ?_) rfl (by kernel_rfl) (by kernel_rfl) (by kernel_rfl) (fun _ _ _ h => h) (by rfl) ?_ hHeld ?_; rotate_left; (· (intro wS hSw; (try dsimp only at hSw); go_simp; first | done | with_reducible rfl)); simp only [Act.put, sta_, scz_, scs_])
  (refine call_op (i := 7) rfl (by kernel_rfl) (by rfl) (fun K hK => ?_); go_simp; (go_at_call 43; (with_reducible refine (Hpl.out _ kk).mono ?_); rintro e w2 ⟨rfl, hb2⟩; replace X := X.keep hb2; replace kk := below_call kk hb2 kk.size); refine hK.out _ _ X.sm (fun hHeld2 => ?_); clear hK K hHeld; have hHeld := hHeld2; clear hHeld2; (try simp only [Act.put, sta_, scz_, scs_]))
  (refine call_op (i := 8) rfl (by kernel_rfl) (by rfl) (fun K hK => ?_); go_simp; (go_at_call 20; (with_reducible refine (Hsm.out _ kk).mono ?_); rintro e w3 ⟨rfl, hb3⟩; replace X := X.keep hb3; replace kk := below_call kk hb3 kk.size); refine hK.out _ _ X.sm (fun hHeld2 => ?_); clear hK K hHeld; have hHeld := hHeld2; clear hHeld2; (try simp only [Act.put, sta_, scz_, scs_]))
  (refine take_op (i := 9) (v := ?_) rfl (by kernel_rfl) (by kernel_rfl) (by kernel_rfl) (fun _ _ _ h => h) (by rfl) ?_ hHeld ?_; rotate_left; (· (intro wS hSw; (try dsimp only at hSw); go_simp; first | done | with_reducible rfl)); simp only [Act.put, sta_, scz_, scs_]); (refine take_op (i := 10) (v := ?_) rfl (by kernel_rfl) (by kernel_rfl) (by kernel_rfl) (fun _ _ _ h => h) (by rfl) ?_ hHeld ?_; rotate_left; (· (intro wS hSw; (try dsimp only at hSw); go_simp; first | done | with_reducible rfl)); simp only [Act.put, sta_, scz_, scs_]); (refine take_op (i := 11) (v := ?_) rfl (by kernel_rfl) (by kernel_rfl) (by kernel_rfl) (fun _ _ _ h => h) (by rfl) ?_ hHeld ?_; rotate_left; (· (intro wS hSw; (try dsimp only at hSw); go_simp; first | done | with_reducible rfl)); simp only [Act.put, sta_, scz_, scs_]); (refine take_op (i := 12) (v := ?_) rfl (by kernel_rfl) (by kernel_rfl) (by kernel_rfl) (fun _ _ _ h => h) (by rfl) ?_ hHeld ?_; rotate_left; (· (intro wS hSw; (try dsimp only at hSw); go_simp; first | done | with_reducible rfl)); simp only [Act.put, sta_, scz_, scs_])
  (refine call_op (i := 13) rfl (by kernel_rfl) (by rfl) (fun K hK => ?_); go_simp; (go_at_call 44; (with_reducible refine (Hri.out _ kk).mono ?_); rintro e w4 ⟨rfl, hb4⟩; replace X := X.keep hb4; replace kk := below_call kk hb4 kk.size); refine hK.out _ _ X.sm (fun hHeld2 => ?_); clear hK K hHeld; have hHeld := hHeld2; clear hHeld2; (try simp only [Act.put, sta_, scz_, scs_]))
  (refine take_op (i := 14) (v := ?_) rfl (by kernel_rfl) (by kernel_rfl) (by kernel_rfl) (fun _ _ _ h => h) (by rfl) ?_ hHeld ?_; rotate_left; (· (intro wS hSw; (try dsimp only at hSw); go_simp; first | done | with_reducible rfl)); simp only [Act.put, sta_, scz_, scs_]); (refine take_op (i := 15) (v := ?_) rfl (by kernel_rfl) (by kernel_rfl) (by kernel_rfl) (fun _ _ _ h => h) (by rfl) ?_ hHeld ?_; rotate_left; (· (intro wS hSw; (try dsimp only at hSw); go_simp; first | done | with_reducible rfl)); simp only [Act.put, sta_, scz_, scs_])
  (refine wpAnyH_done (by kernel_rfl) ?_ _)
  clear hHeld
  cases r
  ·go_wp2_with fail
   go_ret
   exact ⟨by rw [← HRES.out]; rfl, kk⟩
  ·go_wp2_with fail
   go_ret
   exact ⟨by rw [← HRES.out]; rfl, kk⟩
end Go.Proofs.YtlolnakeancenaaDoor
