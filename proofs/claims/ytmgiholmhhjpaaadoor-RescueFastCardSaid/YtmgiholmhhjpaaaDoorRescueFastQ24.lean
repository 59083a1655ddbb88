/- The walk of the law RescueFast (under way). -/
import Derived.Test.YtmgiholmhhjpaaaDoorRescueFastQ22
import Derived.Test.YtmgiholmhhjpaaaDoorRescueFastQ23
import Derived.Test.YtmgiholmhhjpaaaDoorRescueFastQ4
import Derived.WalkKit
import Derived.WalkSpells
import Derived.WalkLawsBesides
import Derived.Deep.RegionHeld3
import Derived.Deep.DrawnRows
import Derived.Deep.DeepCutAuto
import Derived.Deep.DeepFit
import Derived.Lib.Hide
import Derived.BigQuiet
import Derived.Deep.QuietTactic
namespace Go.Proofs.YtmgiholmhhjpaaaDoor
open Go.RowKit
set_option linter.unusedVariables false
set_option linter.unusedSimpArgs false
set_option maxRecDepth 20000
attribute [local go_sem ↓] Go.wp_at_zero Go.wp_at_succ
attribute [local go_sem] World.cell?_alloc_some frozen_alloc_some
attribute [local go_sem ↓ high] loadVar_rec storeVar_rec loadVar_seen storeVar_seen loadVar_dec storeVar_dec cmd_eql_run cmd_neq_run
attribute [local go_sem] rec_store_new seen_store_new dec_store_new

structure RF0 (w : World) (h : Int) (c : CmdT) (A : Option Addr) (m cap : Nat) (q t : Int) (Ao : Option Addr) (mo co : Nat) (qo to_ : Int) (gi : Nat) (W : World) : Prop where
  hb : Below w.heap.size w W
  cb : Blk W w.heap.size 23 #[.int .i64 c.kind, .int .i64 c.client, .int .i64 c.seq, .string c.key, .string c.val, .int .i64 c.rev]
  ab : Blk W (w.heap.size + 1) 26 #[.slice A m cap, .int .i64 q, .int .i64 t]
  ob : Blk W (w.heap.size + 1 + 1) 26 #[.slice Ao mo co, .int .i64 qo, .int .i64 to_]
  ib : Blk W gi 28 #[.int .i64 h, .int .i64 1]
theorem RF0.keep {w W W' : World} {h : Int} {c : CmdT} {A : Option Addr} {m cap : Nat} {q t : Int} {Ao : Option Addr} {mo co : Nat} {qo to_ : Int} {gi : Nat} (P : RF0 w h c A m cap q t Ao mo co qo to_ gi W) (hb : Below W.heap.size W W') : RF0 w h c A m cap q t Ao mo co qo to_ gi W' :=
  ⟨below_call P.hb hb P.hb.size, P.cb.keep hb, P.ab.keep hb, P.ob.keep hb, P.ib.keep hb⟩
structure RF (w : World) (h : Int) (c : CmdT) (A : Option Addr) (m cap : Nat) (q t : Int) (l : List IdP) (Ao : Option Addr) (mo co : Nat) (qo to_ : Int) (lo : List IdP) (r u : RecT) (gi gr gu : Nat) (W : World) : Prop where
  p : RF0 w h c A m cap q t Ao mo co qo to_ gi W
  rb : Blk W gr 33 #[.int .i64 r.i, .int .i64 r.n, .int .i64 r.st, .int .i64 r.br, .int .i64 r.bb, .int .i64 r.tr, .int .i64 r.tb, .int .i64 r.k, .int .i64 r.c, .int .i64 r.q, .string r.y, .string r.x, .int .i64 r.r, .slice r.A r.m r.cap, .int .i64 r.sq, .int .i64 r.tg]
  ub : Blk W gu 33 #[.int .i64 u.i, .int .i64 u.n, .int .i64 u.st, .int .i64 u.br, .int .i64 u.bb, .int .i64 u.tr, .int .i64 u.tb, .int .i64 u.k, .int .i64 u.c, .int .i64 u.q, .string u.y, .string u.x, .int .i64 u.r, .slice u.A u.m u.cap, .int .i64 u.sq, .int .i64 u.tg]
  ids : IdsAt W A m l
  ido : IdsAt W Ao mo lo
theorem RF.keep {w W W' : World} {h : Int} {c : CmdT} {A : Option Addr} {m cap : Nat} {q t : Int} {l : List IdP} {Ao : Option Addr} {mo co : Nat} {qo to_ : Int} {lo : List IdP} {r u : RecT} {gi gr gu : Nat} (P : RF w h c A m cap q t l Ao mo co qo to_ lo r u gi gr gu W) (hb : Below W.heap.size W W') : RF w h c A m cap q t l Ao mo co qo to_ lo r u gi gr gu W' :=
  ⟨P.p.keep hb, P.rb.keep hb, P.ub.keep hb, P.ids.keep hb, P.ido.keep hb⟩
theorem RF.app {w W W' : World} {h : Int} {c : CmdT} {A : Option Addr} {m cap : Nat} {q t : Int} {l : List IdP} {Ao : Option Addr} {mo co : Nat} {qo to_ : Int} {lo : List IdP} {r u : RecT} {gi gr gu : Nat} (P : RF w h c A m cap q t l Ao mo co qo to_ lo r u gi gr gu W) (hI : IdsAt w A m l) (hIo : IdsAt w Ao mo lo) (h1 : w.heap.size + 3 ≤ gi) (h2 : gi < gr) (h3 : gr < gu)
    {e : TypeId} {size : Nat} {v : Value} {n : Nat} {xs : List Value} (ho : W.ownsRow (gu + 1) e size v n xs) (hg : W.grownBy W' v.ownBlock) : RF w h c A m cap q t l Ao mo co qo to_ lo r u gi gr gu W' :=
  have far : ∀ k, k < gu + 1 → some k ≠ v.ownBlock := fun k hk e => by have := (ho.lt _ e.symm).1; omega
  have hb : Below w.heap.size w W' := below_app P.p.hb ho hg (by omega) P.p.hb.size
  ⟨⟨hb, (hg.block _ P.p.cb.lt (far _ (by omega))).trans P.p.cb, (hg.block _ P.p.ab.lt (far _ (by omega))).trans P.p.ab, (hg.block _ P.p.ob.lt (far _ (by omega))).trans P.p.ob, (hg.block _ P.p.ib.lt (far _ (by omega))).trans P.p.ib⟩, (hg.block _ P.rb.lt (far _ (by omega))).trans P.rb, (hg.block _ P.ub.lt (far _ (by omega))).trans P.ub, hI.keep hb, hIo.keep hb⟩
theorem RF.put {w W : World} {h : Int} {c : CmdT} {A : Option Addr} {m cap : Nat} {q t : Int} {l : List IdP} {Ao : Option Addr} {mo co : Nat} {qo to_ : Int} {lo : List IdP} {r u : RecT} {gi gr gu : Nat} (P : RF w h c A m cap q t l Ao mo co qo to_ lo r u gi gr gu W) (hI : IdsAt w A m l) (hIo : IdsAt w Ao mo lo) (h1 : w.heap.size + 3 ≤ gi) (h2 : gi < gr) (h3 : gr < gu) {g off : Nat} (hg : gu < g) (cs : Array Value) : RF w h c A m cap q t l Ao mo co qo to_ lo r u gi gr gu (recAt W g off cs) :=
  have hb := below_recAt (off := off) P.p.hb (show w.heap.size ≤ g by omega) cs
  ⟨⟨hb, P.p.cb.recAt_far (by omega), P.p.ab.recAt_far (by omega), P.p.ob.recAt_far (by omega), P.p.ib.recAt_far (by omega)⟩, P.rb.recAt_far (by omega), P.ub.recAt_far (by omega), hI.keep hb, hIo.keep hb⟩
abbrev S3c (g1 g2 g3 : Nat) (c1 c2 c3 : Array Value) (wx : World) : Prop := (∀ i, wx.cell? ⟨g1, i, none⟩ = c1[i]?) ∧ (∀ i, wx.cell? ⟨g2, i, none⟩ = c2[i]?) ∧ (∀ i, wx.cell? ⟨g3, i, none⟩ = c3[i]?)
set_option maxHeartbeats 16000000 in
theorem rescfast_walk (f ho od : Int) (c : CmdT) (A : Option Addr) (m cap : Nat) (q t : Int) (l : List IdP) (Ao : Option Addr) (mo co : Nat) (qo to_ : Int) (lo : List IdP) (qu : Int) (w : World) (hT : Tabs w) (hf : (Lit.int .u8 f).wf = true) (hho : (Lit.int .u8 ho).wf = true) (hod : (Lit.int .u8 od).wf = true) (hc : c.Ok)
    (hmc : m ≤ cap) (hcm : cap ≤ maxLen) (hI : IdsAt w A m l) (wq : (Lit.int .i64 q).wf = true) (wt : (Lit.int .i64 t).wf = true)
    (hmo : mo ≤ co) (hcmo : co ≤ maxLen) (hIo : IdsAt w Ao mo lo) (wqo : (Lit.int .i64 qo).wf = true) (wto : (Lit.int .i64 to_).wf = true) (hqu : (Lit.int .u8 qu).wf = true) :
    Calls Tryd.prog 3 #[.int .u8 f, .int .u8 ho, .int .u8 od, c.v, .agg #[.slice A m cap, .int .i64 q, .int .i64 t], .agg #[.slice Ao mo co, .int .i64 qo, .int .i64 to_], .int .u8 qu] w (Gives w (.bool true)) := by
  have hf' := wf_u8 hf
  have hho' := wf_u8 hho
  have hod' := wf_u8 hod
  have hqu' := wf_u8 hqu
  clear hf hho hod hqu
  obtain ⟨N, hN, hN3⟩ : ∃ N : Nat, (N : Int) = 3 + 2 * (f % 3) ∧ (N = 3 ∨ N = 5 ∨ N = 7) := ⟨(3 + 2 * (f % 3)).toNat, by omega, by omega⟩
  have hrem : f.tmod 3 = f % 3 := Int.tmod_eq_emod_of_nonneg hf'.1
  have hw0 : IntKind.i64.wrap f = f := IntWalk.i64_in _ (by omega)
  have hw1 : IntKind.i64.wrap (f % 3) = f % 3 := IntWalk.i64_in _ (by omega)
  have hw2 : IntKind.i64.wrap (2 * (f % 3)) = 2 * (f % 3) := IntWalk.i64_in _ (by omega)
  have hw3 : IntKind.i64.wrap (3 + 2 * (f % 3)) = N := by rw [hN]; exact IntWalk.i64_in _ (by omega)
  obtain ⟨h, hh⟩ : ∃ h, h = ho % N := ⟨_, rfl⟩
  have h0 : 0 ≤ h := by rw [hh]; exact Int.emod_nonneg _ (by omega)
  have h1 : h < N := by rw [hh]; exact Int.emod_lt_of_pos _ (by omega)
  have hrem2 : ho.tmod N = h := by rw [hh]; exact Int.tmod_eq_emod_of_nonneg hho'.1
  have hw4 : IntKind.i64.wrap ho = ho := IntWalk.i64_in _ (by omega)
  have hw5 : IntKind.i64.wrap h = h := IntWalk.i64_in _ (by omega)
  have hN0 : ((N : Int) == 0) = false := by simp; omega
  have hN0' : ((N : Int) = 0) = False := by simp; omega
  obtain ⟨r, hr0⟩ : ∃ r : RecT, r = ⟨h, 1, 1, 1, 0, 0, h, c.kind, c.client, c.seq, c.key, c.val, c.rev, A, m, cap, q, t, l⟩ := ⟨_, rfl⟩
  obtain ⟨u, hu0⟩ : ∃ u : RecT, u = ⟨h, 1, 1, 1, 0, 0, h, c.kind, c.client, c.seq, c.key, c.val, c.rev, Ao, mo, co, qo, to_, lo⟩ := ⟨_, rfl⟩
  have Hr := Lib.hid hr0
  have Hu := Lib.hid hu0
  have HN := Lib.hid hN
  have Hc := Lib.hid hc
  have HI := Lib.hid hI
  have HIo := Lib.hid hIo
  have HT := Lib.hid hT
  clear hr0 hu0 hN hh hc hI hIo hT
  unfold CmdT.v
  obtain ⟨W3, hW3⟩ : ∃ W3, W3 = ((w.alloc (.cells #[.int .i64 c.kind, .int .i64 c.client, .int .i64 c.seq, .string c.key, .string c.val, .int .i64 c.rev] 23)).alloc (.cells #[.slice A m cap, .int .i64 q, .int .i64 t] 26)).alloc (.cells #[.slice Ao mo co, .int .i64 qo, .int .i64 to_] 26) := ⟨_, rfl⟩
  go_enter Tryd.func3, Tryd.ntmps3
  go_upto_region 3 with fail
  have k3 : Below w.heap.size w W3 := by rw [hW3]; ((repeat' first | with_reducible exact Below.refl _ _ | with_reducible assumption | with_reducible refine Below.alloc ?_ ?_ _ | with_reducible refine Below.setCell ?_ ?_ _ | with_reducible apply Below.drew | with_reducible apply below_drewN | with_reducible refine below_call ?_ (by with_reducible assumption) ?_) <;> (first | omega | (simp; done) | (simp; omega) | (simp at *; omega)))
  have s3 : w.heap.size + 3 ≤ W3.heap.size := by rw [hW3]; simp
  have cb3 : Blk W3 w.heap.size 23 #[.int .i64 c.kind, .int .i64 c.client, .int .i64 c.seq, .string c.key, .string c.val, .int .i64 c.rev] := by rw [hW3]; exact ((Blk.new _ _ _).alloc _).alloc _
  have ab3 : Blk W3 (w.heap.size + 1) 26 #[.slice A m cap, .int .i64 q, .int .i64 t] := by rw [hW3]; exact (Blk.newAt (by simp)).alloc _
  have ob3 : Blk W3 (w.heap.size + 1 + 1) 26 #[.slice Ao mo co, .int .i64 qo, .int .i64 to_] := by rw [hW3]; exact Blk.newAt (by simp)
  rw [← hW3]
  clear hW3
  go_upto_region 4 with fail
  have ki := below_one (w := W3) (.cells #[.int .i64 h, .int .i64 1] 28)
  have P : RF0 w h c A m cap q t Ao mo co qo to_ W3.heap.size (W3.alloc (.cells #[.int .i64 h, .int .i64 1] 28)) := ⟨below_call k3 ki k3.size, cb3.keep ki, ab3.keep ki, ob3.keep ki, Blk.new _ _ _⟩
  clear k3 cb3 ab3 ob3 ki
  revert P
  generalize hgi : W3.heap.size = gi at s3
  generalize World.alloc W3 _ = W4
  intro P
  clear hgi
  have hfi := fun W => first_any h W
  replace P := P.keep (Below.refl _ _).drew
  (refine wp_region_held_drew (S := (S3c gi w.heap.size (w.heap.size + 1) #[.int .i64 h, .int .i64 1] #[.int .i64 c.kind, .int .i64 c.client, .int .i64 c.seq, .string c.key, .string c.val, .int .i64 c.rev] #[.slice A m cap, .int .i64 q, .int .i64 t])) (by kernel_rfl) ?_ (fun hHeld => ?_); (· exact ⟨P.ib.cell, P.cb.cell, P.ab.cell⟩))
  (refine take_op (i := 0) (v := ?_) rfl (by kernel_rfl) (by kernel_rfl) (by kernel_rfl) (fun _ _ _ h => h) (by rfl) ?_ hHeld ?_; rotate_left; (· (intro wS hSw; (try dsimp only at hSw); go_simp; first | done | with_reducible rfl)); simp only [Act.put, List.setIfInBounds_toArray, List.set_cons_zero, List.set_cons_succ]); (refine take_op (i := 1) (v := ?_) rfl (by kernel_rfl) (by kernel_rfl) (by kernel_rfl) (fun _ _ _ h => h) (by rfl) ?_ hHeld ?_; rotate_left; (· (intro wS hSw; (try dsimp only at hSw); go_simp; first | done | with_reducible rfl)); simp only [Act.put, List.setIfInBounds_toArray, List.set_cons_zero, List.set_cons_succ]); (refine take_op (i := 2) (v := ?_) rfl (by kernel_rfl) (by kernel_rfl) (by kernel_rfl) (fun _ _ _ h => h) (by rfl) ?_ hHeld ?_; rotate_left; (· (intro wS hSw; (try dsimp only at hSw); go_simp; first | done | with_reducible rfl)); simp only [Act.put, List.setIfInBounds_toArray, List.set_cons_zero, List.set_cons_succ]); (refine take_op (i := 4) (v := ?_) rfl (by kernel_rfl) (by kernel_rfl) (by kernel_rfl) (fun _ _ _ h => h) (by rfl) ?_ hHeld ?_; rotate_left; (· (intro wS hSw; (try dsimp only at hSw); go_simp; first | done | with_reducible rfl)); simp only [Act.put, List.setIfInBounds_toArray, List.set_cons_zero, List.set_cons_succ]); (refine take_op (i := 5) (v := ?_) rfl (by kernel_rfl) (by kernel_rfl) (by kernel_rfl) (fun _ _ _ h => h) (by rfl) ?_ hHeld ?_; rotate_left; (· (intro wS hSw; (try dsimp only at hSw); go_simp; first | done | with_reducible rfl)); simp only [Act.put, List.setIfInBounds_toArray, List.set_cons_zero, List.set_cons_succ])
  revert P
  generalize World.drew _ = w0
  intro P
  generalize hF : wpAnyH _ _ _ _ _ = F
  generalize hA0 : Act.mk _ _ = A0
  generalize hfu : List.length _ = fu
  generalize hL0 : Array.setIfInBounds _ _ _ = L0
  obtain rfl : fu = 4 := by rw [← hfu]; rfl
  have hL : L0 = #[true, true, true, false, true, true, false, false, false] := by rw [← hL0]; kernel_rfl
  clear hL0 hfu
  subst hL
  have HF := Lib.hid hF
  have HA0 := Lib.hid hA0
  clear hF hA0
  have fin : Hid (∀ (W : World) (gr : Nat) (P : RF0 w h c A m cap q t Ao mo co qo to_ gi W) (Z : Blk W gr 33 #[.int .i64 0, .int .i64 0, .int .i64 0, .int .i64 0, .int .i64 0, .int .i64 0, .int .i64 0, .int .i64 0, .int .i64 0, .int .i64 0, .string ⟨#[]⟩, .string ⟨#[]⟩, .int .i64 0, .slice none 0 0, .int .i64 0, .int .i64 0]) (Lz : gi < gr), F 1 #[true, true, true, true, true, true, true, true, false] (((A0.put (some 18) (.pointer (some ⟨gr, 0, none⟩))).put (some 39) (.agg #[.int .i64 0, .int .i64 h])).put (some 42) (.agg #[.int .i64 h, .int .i64 1, .int .i64 1, .int .i64 1, .int .i64 0, .int .i64 0, .int .i64 h, .int .i64 c.kind, .int .i64 c.client, .int .i64 c.seq, .string c.key, .string c.val, .int .i64 c.rev, .slice A m cap, .int .i64 q, .int .i64 t])) W) := Lib.hid (by
    intro W gr P Z Lz
    rw [← HF.out, ← HA0.out]
    try simp only [Act.put, List.setIfInBounds_toArray, List.set_cons_zero, List.set_cons_succ]
    have hHeld : S3c gi w.heap.size (w.heap.size + 1) #[.int .i64 h, .int .i64 1] #[.int .i64 c.kind, .int .i64 c.client, .int .i64 c.seq, .string c.key, .string c.val, .int .i64 c.rev] #[.slice A m cap, .int .i64 q, .int .i64 t] W := ⟨P.ib.cell, P.cb.cell, P.ab.cell⟩
    have sr := rec_store Z rfl h 1 1 1 0 0 h c.kind c.client c.seq c.key c.val c.rev A m cap q t
    have bi := P.ib.recSet_far (g := gr) (cs' := #[.int .i64 h, .int .i64 1, .int .i64 1, .int .i64 1, .int .i64 0, .int .i64 0, .int .i64 h, .int .i64 c.kind, .int .i64 c.client, .int .i64 c.seq, .string c.key, .string c.val, .int .i64 c.rev, .slice A m cap, .int .i64 q, .int .i64 t]) (by omega)
    have bc := P.cb.recSet_far (g := gr) (cs' := #[.int .i64 h, .int .i64 1, .int .i64 1, .int .i64 1, .int .i64 0, .int .i64 0, .int .i64 h, .int .i64 c.kind, .int .i64 c.client, .int .i64 c.seq, .string c.key, .string c.val, .int .i64 c.rev, .slice A m cap, .int .i64 q, .int .i64 t]) (by omega)
    have ba := P.ab.recSet_far (g := gr) (cs' := #[.int .i64 h, .int .i64 1, .int .i64 1, .int .i64 1, .int .i64 0, .int .i64 0, .int .i64 h, .int .i64 c.kind, .int .i64 c.client, .int .i64 c.seq, .string c.key, .string c.val, .int .i64 c.rev, .slice A m cap, .int .i64 q, .int .i64 t]) (by omega)
    have bo := P.ob.recSet_far (g := gr) (cs' := #[.int .i64 h, .int .i64 1, .int .i64 1, .int .i64 1, .int .i64 0, .int .i64 0, .int .i64 h, .int .i64 c.kind, .int .i64 c.client, .int .i64 c.seq, .string c.key, .string c.val, .int .i64 c.rev, .slice A m cap, .int .i64 q, .int .i64 t]) (by omega)
    have br := Z.recSet (cs' := #[.int .i64 h, .int .i64 1, .int .i64 1, .int .i64 1, .int .i64 0, .int .i64 0, .int .i64 h, .int .i64 c.kind, .int .i64 c.client, .int .i64 c.seq, .string c.key, .string c.val, .int .i64 c.rev, .slice A m cap, .int .i64 q, .int .i64 t]) rfl
    have kb := below_recSet P.hb (show w.heap.size ≤ gr by omega) #[.int .i64 h, .int .i64 1, .int .i64 1, .int .i64 1, .int .i64 0, .int .i64 0, .int .i64 h, .int .i64 c.kind, .int .i64 c.client, .int .i64 c.seq, .string c.key, .string c.val, .int .i64 c.rev, .slice A m cap, .int .i64 q, .int .i64 t]
    (refine call_op (i := 8) rfl (by kernel_rfl) (by rfl) (fun K hK => ?_); go_simp; skip; refine hK.out _ _ ⟨bi.cell, bc.cell, ba.cell⟩ (fun hHeld2 => ?_); clear hK K hHeld; have hHeld := hHeld2; clear hHeld2; (try simp only [Act.put, List.setIfInBounds_toArray, List.set_cons_zero, List.set_cons_succ]))
    (refine wpAnyH_done (by kernel_rfl) ?_ _)
    clear hHeld sr Z P HF HA0 hfi
    revert bi bc ba bo br kb
    generalize recSet W gr _ = W5
    intro bi bc ba bo br kb
    have obc := bo.cell
    have lr := rec_load br
    go_upto_region 7 with fail
    have kW := below_one (w := W5) (.cells #[.int .i64 h, .int .i64 1, .int .i64 1, .int .i64 1, .int .i64 0, .int .i64 0, .int .i64 h, .int .i64 c.kind, .int .i64 c.client, .int .i64 c.seq, .string c.key, .string c.val, .int .i64 c.rev, .slice Ao mo co, .int .i64 qo, .int .i64 to_] 33)
    have P : RF w h c A m cap q t l Ao mo co qo to_ lo r u gi gr W5.heap.size (W5.alloc (.cells #[.int .i64 h, .int .i64 1, .int .i64 1, .int .i64 1, .int .i64 0, .int .i64 0, .int .i64 h, .int .i64 c.kind, .int .i64 c.client, .int .i64 c.seq, .string c.key, .string c.val, .int .i64 c.rev, .slice Ao mo co, .int .i64 qo, .int .i64 to_] 33)) := ⟨⟨below_call kb kW kb.size, bc.keep kW, ba.keep kW, bo.keep kW, bi.keep kW⟩, by rw [Hr.out]; exact Blk.keep br kW, by rw [Hu.out]; exact Blk.new _ _ _, HI.out.keep (below_call kb kW kb.size), HIo.out.keep (below_call kb kW kb.size)⟩
    have hru := br.lt
    clear kW bi bc ba bo br kb obc lr
    revert P
    generalize hgu : W5.heap.size = gu at hru
    generalize World.alloc W5 _ = W6
    intro P
    clear hgu
    have z : ∀ x : Int, 0 ≤ x → x ≤ 1000 → (Lit.int .i64 x).wf = true := fun x h1 h2 => by simp [Lit.wf, IntKind.min, IntKind.max, IntKind.bits, IntKind.signed]; omega
    have rOk : ∀ W, IdsAt W A m l → r.Ok W := fun W hi => by
      rw [Hr.out]
      exact { i := z h (by omega) (by omega), n := z 1 (by omega) (by omega), st := z 1 (by omega) (by omega), br := z 1 (by omega) (by omega), bb := z 0 (by omega) (by omega), tr := z 0 (by omega) (by omega), tb := z h (by omega) (by omega), k := Hc.out.kind, c := Hc.out.client, q := Hc.out.seq, y := Hc.out.key, x := Hc.out.val, r := Hc.out.rev, m := hmc, cap := hcm, l := hi, sq := wq, tg := wt }
    have uOk : ∀ W, IdsAt W Ao mo lo → u.Ok W := fun W hi => by
      rw [Hu.out]
      exact { i := z h (by omega) (by omega), n := z 1 (by omega) (by omega), st := z 1 (by omega) (by omega), br := z 1 (by omega) (by omega), bb := z 0 (by omega) (by omega), tr := z 0 (by omega) (by omega), tb := z h (by omega) (by omega), k := Hc.out.kind, c := Hc.out.client, q := Hc.out.seq, y := Hc.out.key, x := Hc.out.val, r := Hc.out.rev, m := hmo, cap := hcmo, l := hi, sq := wqo, tg := wto }
    have ckr : ∀ W, RF w h c A m cap q t l Ao mo co qo to_ lo r u gi gr gu W → Calls Tryd.prog 10 #[.agg #[.int .i64 r.i, .int .i64 r.n, .int .i64 r.st, .int .i64 r.br, .int .i64 r.bb, .int .i64 r.tr, .int .i64 r.tb, .int .i64 r.k, .int .i64 r.c, .int .i64 r.q, .string r.y, .string r.x, .int .i64 r.r, .slice r.A r.m r.cap, .int .i64 r.sq, .int .i64 r.tg]] W (Gives W (.int .i64 (recErr (recOk r)))) := fun W hp => reccheck_any r W (rOk W hp.ids) (HT.out.keep hp.p.hb)
    have cku : ∀ W, RF w h c A m cap q t l Ao mo co qo to_ lo r u gi gr gu W → Calls Tryd.prog 10 #[.agg #[.int .i64 u.i, .int .i64 u.n, .int .i64 u.st, .int .i64 u.br, .int .i64 u.bb, .int .i64 u.tr, .int .i64 u.tb, .int .i64 u.k, .int .i64 u.c, .int .i64 u.q, .string u.y, .string u.x, .int .i64 u.r, .slice u.A u.m u.cap, .int .i64 u.sq, .int .i64 u.tg]] W (Gives W (.int .i64 (recErr (recOk u)))) := fun W hp => reccheck_any u W (uOk W hp.ido) (HT.out.keep hp.p.hb)
    have aw : ∀ W, Below w.heap.size w W → Calls Tryd.prog 11 #[] W (Gives W (.bool true)) := fun W hb => awake25 W (HT.out.keep hb)
    have ROk := Lib.hid rOk
    have UOk := Lib.hid uOk
    have AW := Lib.hid aw
    clear rOk uOk aw z
    have lr := rec_load P.rb
    have lu := rec_load P.ub
    have ibc := P.p.ib.cell
    have cbc := P.p.cb.cell
    have obc := P.p.ob.cell
    have abc := P.p.ab.cell
    by_cases g1 : 40 < m
    · have g1' : (40 : Int) < (m : Int) := by omega
      go_wp2_with (first | (go_at_call 10; (with_reducible refine (ckr _ P).mono ?_); rintro e w' ⟨rfl, hb'⟩; have Pn := P.keep hb'; clear P lr lu ibc cbc obc abc hb'; have P := Pn; clear Pn; have lr := rec_load P.rb; have lu := rec_load P.ub; have ibc := P.p.ib.cell; have cbc := P.p.cb.cell; have obc := P.p.ob.cell; have abc := P.p.ab.cell) | (go_at_call 10; (with_reducible refine (cku _ P).mono ?_); rintro e w' ⟨rfl, hb'⟩; have Pn := P.keep hb'; clear P lr lu ibc cbc obc abc hb'; have P := Pn; clear Pn; have lr := rec_load P.rb; have lu := rec_load P.ub; have ibc := P.p.ib.cell; have cbc := P.p.cb.cell; have obc := P.p.ob.cell; have abc := P.p.ab.cell) | (go_at_call 11; (with_reducible refine (AW.out _ P.p.hb).mono ?_); rintro e w' ⟨rfl, hb'⟩; have Pn := P.keep hb'; clear P lr lu ibc cbc obc abc hb'; have P := Pn; clear Pn; have lr := rec_load P.rb; have lu := rec_load P.ub; have ibc := P.p.ib.cell; have cbc := P.p.cb.cell; have obc := P.p.ob.cell; have abc := P.p.ab.cell))
      go_ret
      exact ⟨rfl, P.p.hb⟩
    have g1' : ¬ (40 : Int) < (m : Int) := by omega
    by_cases g2 : 40 < mo
    · have g2' : (40 : Int) < (mo : Int) := by omega
      go_wp2_with (first | (go_at_call 10; (with_reducible refine (ckr _ P).mono ?_); rintro e w' ⟨rfl, hb'⟩; have Pn := P.keep hb'; clear P lr lu ibc cbc obc abc hb'; have P := Pn; clear Pn; have lr := rec_load P.rb; have lu := rec_load P.ub; have ibc := P.p.ib.cell; have cbc := P.p.cb.cell; have obc := P.p.ob.cell; have abc := P.p.ab.cell) | (go_at_call 10; (with_reducible refine (cku _ P).mono ?_); rintro e w' ⟨rfl, hb'⟩; have Pn := P.keep hb'; clear P lr lu ibc cbc obc abc hb'; have P := Pn; clear Pn; have lr := rec_load P.rb; have lu := rec_load P.ub; have ibc := P.p.ib.cell; have cbc := P.p.cb.cell; have obc := P.p.ob.cell; have abc := P.p.ab.cell) | (go_at_call 11; (with_reducible refine (AW.out _ P.p.hb).mono ?_); rintro e w' ⟨rfl, hb'⟩; have Pn := P.keep hb'; clear P lr lu ibc cbc obc abc hb'; have P := Pn; clear Pn; have lr := rec_load P.rb; have lu := rec_load P.ub; have ibc := P.p.ib.cell; have cbc := P.p.cb.cell; have obc := P.p.ob.cell; have abc := P.p.ab.cell))
      go_ret
      exact ⟨rfl, P.p.hb⟩
    have g2' : ¬ (40 : Int) < (mo : Int) := by omega
    by_cases g3 : 200 < c.key.size
    · have g3' : (200 : Int) < (c.key.size : Int) := by omega
      go_wp2_with (first | (go_at_call 10; (with_reducible refine (ckr _ P).mono ?_); rintro e w' ⟨rfl, hb'⟩; have Pn := P.keep hb'; clear P lr lu ibc cbc obc abc hb'; have P := Pn; clear Pn; have lr := rec_load P.rb; have lu := rec_load P.ub; have ibc := P.p.ib.cell; have cbc := P.p.cb.cell; have obc := P.p.ob.cell; have abc := P.p.ab.cell) | (go_at_call 10; (with_reducible refine (cku _ P).mono ?_); rintro e w' ⟨rfl, hb'⟩; have Pn := P.keep hb'; clear P lr lu ibc cbc obc abc hb'; have P := Pn; clear Pn; have lr := rec_load P.rb; have lu := rec_load P.ub; have ibc := P.p.ib.cell; have cbc := P.p.cb.cell; have obc := P.p.ob.cell; have abc := P.p.ab.cell) | (go_at_call 11; (with_reducible refine (AW.out _ P.p.hb).mono ?_); rintro e w' ⟨rfl, hb'⟩; have Pn := P.keep hb'; clear P lr lu ibc cbc obc abc hb'; have P := Pn; clear Pn; have lr := rec_load P.rb; have lu := rec_load P.ub; have ibc := P.p.ib.cell; have cbc := P.p.cb.cell; have obc := P.p.ob.cell; have abc := P.p.ab.cell))
      go_ret
      exact ⟨rfl, P.p.hb⟩
    have g3' : ¬ (200 : Int) < (c.key.size : Int) := by omega
    by_cases g4 : 2000 < c.val.size
    · have g4' : (2000 : Int) < (c.val.size : Int) := by omega
      go_wp2_with (first | (go_at_call 10; (with_reducible refine (ckr _ P).mono ?_); rintro e w' ⟨rfl, hb'⟩; have Pn := P.keep hb'; clear P lr lu ibc cbc obc abc hb'; have P := Pn; clear Pn; have lr := rec_load P.rb; have lu := rec_load P.ub; have ibc := P.p.ib.cell; have cbc := P.p.cb.cell; have obc := P.p.ob.cell; have abc := P.p.ab.cell) | (go_at_call 10; (with_reducible refine (cku _ P).mono ?_); rintro e w' ⟨rfl, hb'⟩; have Pn := P.keep hb'; clear P lr lu ibc cbc obc abc hb'; have P := Pn; clear Pn; have lr := rec_load P.rb; have lu := rec_load P.ub; have ibc := P.p.ib.cell; have cbc := P.p.cb.cell; have obc := P.p.ob.cell; have abc := P.p.ab.cell) | (go_at_call 11; (with_reducible refine (AW.out _ P.p.hb).mono ?_); rintro e w' ⟨rfl, hb'⟩; have Pn := P.keep hb'; clear P lr lu ibc cbc obc abc hb'; have P := Pn; clear Pn; have lr := rec_load P.rb; have lu := rec_load P.ub; have ibc := P.p.ib.cell; have cbc := P.p.cb.cell; have obc := P.p.ob.cell; have abc := P.p.ab.cell))
      go_ret
      exact ⟨rfl, P.p.hb⟩
    have g4' : ¬ (2000 : Int) < (c.val.size : Int) := by omega
    cases x1 : recOk r
    · rw [x1] at ckr
      simp only [recErr] at ckr
      go_wp2_with (first | (go_at_call 10; (with_reducible refine (ckr _ P).mono ?_); rintro e w' ⟨rfl, hb'⟩; have Pn := P.keep hb'; clear P lr lu ibc cbc obc abc hb'; have P := Pn; clear Pn; have lr := rec_load P.rb; have lu := rec_load P.ub; have ibc := P.p.ib.cell; have cbc := P.p.cb.cell; have obc := P.p.ob.cell; have abc := P.p.ab.cell) | (go_at_call 10; (with_reducible refine (cku _ P).mono ?_); rintro e w' ⟨rfl, hb'⟩; have Pn := P.keep hb'; clear P lr lu ibc cbc obc abc hb'; have P := Pn; clear Pn; have lr := rec_load P.rb; have lu := rec_load P.ub; have ibc := P.p.ib.cell; have cbc := P.p.cb.cell; have obc := P.p.ob.cell; have abc := P.p.ab.cell) | (go_at_call 11; (with_reducible refine (AW.out _ P.p.hb).mono ?_); rintro e w' ⟨rfl, hb'⟩; have Pn := P.keep hb'; clear P lr lu ibc cbc obc abc hb'; have P := Pn; clear Pn; have lr := rec_load P.rb; have lu := rec_load P.ub; have ibc := P.p.ib.cell; have cbc := P.p.cb.cell; have obc := P.p.ob.cell; have abc := P.p.ab.cell))
      go_ret
      exact ⟨rfl, P.p.hb⟩
    cases x2 : recOk u
    · rw [x1] at ckr
      rw [x2] at cku
      simp only [recErr] at ckr cku
      go_wp2_with (first | (go_at_call 10; (with_reducible refine (ckr _ P).mono ?_); rintro e w' ⟨rfl, hb'⟩; have Pn := P.keep hb'; clear P lr lu ibc cbc obc abc hb'; have P := Pn; clear Pn; have lr := rec_load P.rb; have lu := rec_load P.ub; have ibc := P.p.ib.cell; have cbc := P.p.cb.cell; have obc := P.p.ob.cell; have abc := P.p.ab.cell) | (go_at_call 10; (with_reducible refine (cku _ P).mono ?_); rintro e w' ⟨rfl, hb'⟩; have Pn := P.keep hb'; clear P lr lu ibc cbc obc abc hb'; have P := Pn; clear Pn; have lr := rec_load P.rb; have lu := rec_load P.ub; have ibc := P.p.ib.cell; have cbc := P.p.cb.cell; have obc := P.p.ob.cell; have abc := P.p.ab.cell) | (go_at_call 11; (with_reducible refine (AW.out _ P.p.hb).mono ?_); rintro e w' ⟨rfl, hb'⟩; have Pn := P.keep hb'; clear P lr lu ibc cbc obc abc hb'; have P := Pn; clear Pn; have lr := rec_load P.rb; have lu := rec_load P.ub; have ibc := P.p.ib.cell; have cbc := P.p.cb.cell; have obc := P.p.ob.cell; have abc := P.p.ab.cell))
      go_ret
      exact ⟨rfl, P.p.hb⟩
    rw [x1] at ckr
    rw [x2] at cku
    simp only [recErr] at ckr cku
    go_upto_region 11 with (first | (go_at_call 10; (with_reducible refine (ckr _ P).mono ?_); rintro e w' ⟨rfl, hb'⟩; have Pn := P.keep hb'; clear P lr lu ibc cbc obc abc hb'; have P := Pn; clear Pn; have lr := rec_load P.rb; have lu := rec_load P.ub; have ibc := P.p.ib.cell; have cbc := P.p.cb.cell; have obc := P.p.ob.cell; have abc := P.p.ab.cell) | (go_at_call 10; (with_reducible refine (cku _ P).mono ?_); rintro e w' ⟨rfl, hb'⟩; have Pn := P.keep hb'; clear P lr lu ibc cbc obc abc hb'; have P := Pn; clear Pn; have lr := rec_load P.rb; have lu := rec_load P.ub; have ibc := P.p.ib.cell; have cbc := P.p.cb.cell; have obc := P.p.ob.cell; have abc := P.p.ab.cell) | (go_at_call 11; (with_reducible refine (AW.out _ P.p.hb).mono ?_); rintro e w' ⟨rfl, hb'⟩; have Pn := P.keep hb'; clear P lr lu ibc cbc obc abc hb'; have P := Pn; clear Pn; have lr := rec_load P.rb; have lu := rec_load P.ub; have ibc := P.p.ib.cell; have cbc := P.p.cb.cell; have obc := P.p.ob.cell; have abc := P.p.ab.cell))
    clear ckr cku
    have hNN : 3 ≤ N ∧ N ≤ 7 := by omega
    obtain ⟨Qn, hQ, hQ2⟩ : ∃ Qn : Nat, quo (N : Int) = (Qn : Int) ∧ 2 * Qn = N + 1 := by
      clear lr lu P
      rcases hN3 with h | h | h <;> subst h
      · exact ⟨2, rfl, rfl⟩
      · exact ⟨3, rfl, rfl⟩
      · exact ⟨4, rfl, rfl⟩
    have hqn := fun W => quorum_any (N : Int) W (by omega) (by omega)
    rw [hQ] at hqn
    have HQ := Lib.hid hQ
    clear hQ
    obtain ⟨i0, hi, hz0, hzz, hz2⟩ := seeninfo
    have hw9 : IntKind.i64.wrap qu = qu := IntWalk.i64_in _ (by omega)
    obtain ⟨whoF, hwhoF⟩ : ∃ whoF : Nat → Int, whoF = fun (k : Nat) => ((k : Int) + qu) % (N : Int) := ⟨_, rfl⟩
    have HW := Lib.hid hwhoF
    clear hwhoF
    go_loopw [20, 21] (fun s20 s21 wr => ∃ (j n : Nat) (A9 : Option Addr) (c9 : Nat), j ≤ N ∧ s20 = .slice A9 n c9 ∧ s21 = .int .i64 j ∧ n ≤ Qn ∧ Hid ((fl whoF h Qn r j).length = n) ∧ RF w h c A m cap q t l Ao mo co qo to_ lo r u gi gr gu wr ∧ wr.ownsRow (gu + 1) 40 17 (.slice A9 n c9) n (flatS (fl whoF h Qn r j))) (fun _ s21 _ => N - (intOf s21).toNat)
    case atStart => exact ⟨0, 0, none, 0, by omega, rfl, rfl, by omega, Lib.hid rfl, P, World.ownsRow_nil _ _ _ _⟩
    case round =>
      clear P lr lu ibc cbc obc abc
      obtain ⟨j, n, A9, c9, hj, rfl, rfl, hn, hlen, P, hown⟩ := hrel
      have hzu := P.ub.lt
      have lr := rec_load P.rb
      have ibc := P.p.ib.cell
      by_cases hlt : j < N
      · have j1 : (j : Int) < (N : Int) := by omega
        obtain ⟨wh, hwh⟩ : ∃ wh, wh = ((j : Int) + qu) % N := ⟨_, rfl⟩
        have v0 : 0 ≤ wh := by rw [hwh]; exact Int.emod_nonneg _ (by omega)
        have v1 : wh < N := by rw [hwh]; exact Int.emod_lt_of_pos _ (by omega)
        have hwr : IntKind.i64.wrap ((j : Int) + qu) = (j : Int) + qu := IntWalk.i64_in _ (by omega)
        have hrem5 : ((j : Int) + qu).tmod N = wh := by rw [hwh]; exact Int.tmod_eq_emod_of_nonneg (by omega)
        have hwr2 : IntKind.i64.wrap wh = wh := IntWalk.i64_in _ (by omega)
        have Ew : Hid (whoF j = wh) := Lib.hid (by rw [HW.out]; exact hwh.symm)
        clear hwh
        by_cases hin : wh = h
        · have hne : (wh != h) = false := by simp [hin]
          have Efl : Hid (fl whoF h Qn r (j + 1) = fl whoF h Qn r j) := Lib.hid (by rw [fl, if_neg (fun hc => hc.1 (by rw [Ew.out]; exact hin))])
          clear hin
          go_wp2_with (go_at_call 12; refine (hqn _).mono ?_; rintro e w2 ⟨rfl, rfl⟩)
          go_roundw
          case rel => exact ⟨j + 1, n, A9, c9, by omega, rfl, by go_num, hn, Lib.hid (by rw [Efl.out]; exact hlen.out), P, by rw [Efl.out]; exact hown⟩
          case measure => simp [intOf]; omega
        have hne : (wh != h) = true := by simp [hin]
        by_cases hfull : n < Qn
        · have Efl : Hid (fl whoF h Qn r (j + 1) = fl whoF h Qn r j ++ [⟨wh, r⟩]) := Lib.hid (by rw [fl, if_pos ⟨by rw [Ew.out]; exact hin, by rw [hlen.out]; exact hfull⟩, Ew.out])
          have n1 : (n : Int) < (Qn : Int) := by omega
          clear hin
          go_wp2_with (first | (go_at_call 12; refine (hqn _).mono ?_; rintro e w2 ⟨rfl, rfl⟩) | ((at_builtin; go_loud (refine wpList_app _ rfl (.tmp 100) (.tmp 104) 37 rfl _ 40 i0 _ 17 168 Tryd.underlying37 hi hz0 hzz hz2 rfl (by omega) _ _ _ rfl (own_keep8 hown (below_one (.cells #[.int .i64 wh, .int .i64 r.i, .int .i64 r.n, .int .i64 r.st, .int .i64 r.br, .int .i64 r.bb, .int .i64 r.tr, .int .i64 r.tb, .int .i64 r.k, .int .i64 r.c, .int .i64 r.q, .string r.y, .string r.x, .int .i64 r.r, .slice r.A r.m r.cap, .int .i64 r.sq, .int .i64 r.tg] 40))) _ _ _ _ rfl (src_seen ⟨wh, r⟩) ?h63 ?hby ?hbase ?_); (case h63 => (unfold maxLen; first | omega | (simp; done) | (simp; omega))); (case hby => first | omega | (simp; done) | (simp; omega)); (case hbase => first | omega | (simp; done) | (simp; omega)); intro v9 w9 hownw9 hgroww9 hatw9 holdw9)))
          obtain ⟨A8, c8, rfl, _, _⟩ := own_form8 hownw9
          go_roundw
          case rel => exact ⟨j + 1, n + 1, A8, c8, by omega, rfl, by go_num, by omega, Lib.hid (by rw [Efl.out, List.length_append, hlen.out]; rfl), (P.keep (below_one _)).app HI.out HIo.out (by omega) (by omega) (by omega) (own_keep8 hown (below_one _)) hgroww9, by rw [Efl.out, flatS_snoc]; exact hownw9⟩
          case measure => simp [intOf]; omega
        · have Efl : Hid (fl whoF h Qn r (j + 1) = fl whoF h Qn r j) := Lib.hid (by rw [fl, if_neg (fun hc => hfull (by rw [← hlen.out]; exact hc.2))])
          have n1 : ¬ (n : Int) < (Qn : Int) := by omega
          clear hin
          go_wp2_with (go_at_call 12; refine (hqn _).mono ?_; rintro e w2 ⟨rfl, rfl⟩)
          go_roundw
          case rel => exact ⟨j + 1, n, A9, c9, by omega, rfl, by go_num, hn, Lib.hid (by rw [Efl.out]; exact hlen.out), P, by rw [Efl.out]; exact hown⟩
          case measure => simp [intOf]; omega
      · obtain rfl : j = N := by omega
        have hdis : ∀ a b, a < j → b < j → whoF a = whoF b → a = b := fun a b ha hb e => by
          rw [HW.out] at e
          simp only at e
          rcases hN3 with h' | h' | h' <;> subst h' <;> omega
        have hnQ : n = Qn := by
          have h1' := fl_len (h := h) (Q := Qn) (r := r) hdis (Nat.le_refl j)
          rw [hlen.out] at h1'
          omega
        subst hnQ
        obtain ⟨ss, hss⟩ : ∃ ss, ss = fl whoF h n r j := ⟨_, rfl⟩
        have hmm : ∀ s ∈ ss, s.r = r ∧ s.f ≠ h ∧ 0 ≤ s.f ∧ s.f < j := fun s hs => by
          rw [hss] at hs
          obtain ⟨k, hk, rfl, hne⟩ := fl_mem hs
          refine ⟨rfl, hne, ?_, ?_⟩
          · show 0 ≤ whoF k
            rw [HW.out]; exact Int.emod_nonneg _ (by omega)
          · show whoF k < j
            rw [HW.out]; exact Int.emod_lt_of_pos _ (by omega)
        have hln : ss.length = n := by rw [hss]; exact hlen.out
        have hnd : (ss.map (·.f)).Nodup := by rw [hss]; exact fl_nodup hdis (Nat.le_refl j)
        rw [← hss] at hown
        have HSS := Lib.hid hss
        clear hss
        obtain ⟨s0, hs0⟩ : ∃ s0, ss[0]? = some s0 := ⟨_, List.getElem?_eq_getElem (show 0 < ss.length by omega)⟩
        have hs0r : s0.r = r := (hmm s0 (List.mem_of_getElem? hs0)).1
        obtain ⟨g9, hA9, hg9, hc9⟩ : ∃ g9, A9 = some ⟨g9, 0, none⟩ ∧ gu + 1 ≤ g9 ∧ n ≤ c9 := by
          rcases hown.2 with ⟨_, h0⟩ | ⟨g, cp, cur, hv, hb, _, hn, _⟩
          · omega
          · injection hv with h1 _ h3
            exact ⟨g, h1, hb, by omega⟩
        subst hA9
        have hS : SeensAt wr (some ⟨g9, 0, none⟩) n ss := seens_own hown hln.symm (by unfold maxLen; omega) (fun s hs => by rw [(hmm s hs).1]; exact ROk.out _ P.ids)
        have hgood : Good j h 1 ss := ⟨fun s hs => (hmm s hs).2.2.1, fun s hs => (hmm s hs).2.2.2, fun s hs => by rw [(hmm s hs).1, Hr.out]; exact peq_iff.2 ⟨rfl, rfl⟩, fun s hs => by rw [(hmm s hs).1]; exact x1, hnd⟩
        have hd1 : ∀ W, Below w.heap.size w W → SeensAt W (some ⟨g9, 0, none⟩) n ss → Calls Tryd.prog 13 #[.int .i64 j, .agg #[.int .i64 h, .int .i64 1], .slice (some ⟨g9, 0, none⟩) n c9] W (Gives W (.agg #[.int .i64 2, .int .i64 c.kind, .int .i64 c.client, .int .i64 c.seq, .string c.key, .string c.val, .int .i64 c.rev, .slice A m cap, .int .i64 q, .int .i64 t])) := fun W hb hs => by
          have h' := decide_any j h 1 (some ⟨g9, 0, none⟩) n c9 ss s0 W hs hs0 hgood (HT.out.keep hb) (by omega) (by omega) (by omega) (by rw [HQ.out]; omega)
          rw [hs0r, found_fast (fun s hs => ⟨(hmm s hs).1, (hmm s hs).2.1⟩) (by rw [Hr.out]) (by rw [Hr.out]) (by rw [Hr.out]), Hr.out] at h'
          exact h'
        have Hd1 := Lib.hid hd1
        have HM := Lib.hid hmm
        have HG := Lib.hid hgood
        clear hd1 hmm hgood hnd
        have hsm1 := fun W (hi : IdsAt W A m l) => attrsame_any A A m cap m cap q t q t l l W hi hi
        rw [show asame ⟨l, q, t⟩ ⟨l, q, t⟩ = true from asame_iff.2 rfl] at hsm1
        have hsm2 := fun W (hi : IdsAt W A m l) (ho : IdsAt W Ao mo lo) => attrsame_any A Ao m cap mo co q t qo to_ l lo W hi ho
        have hce3 : ceq c.kind c.client c.seq c.key c.val c.rev c.kind c.client c.seq c.key c.val c.rev = true := by simp [ceq]
        obtain ⟨x, hx⟩ : ∃ x, x = asame ⟨l, q, t⟩ ⟨lo, qo, to_⟩ := ⟨_, rfl⟩
        rw [← hx] at hsm2
        have Hx := Lib.hid hx
        clear hx
        have cbc := P.p.cb.cell
        have abc := P.p.ab.cell
        have obc := P.p.ob.cell
        go_upto_region 19 with (first | (go_at_call 13; (with_reducible refine (Hd1.out _ P.p.hb hS).mono ?_); rintro e w18 ⟨rfl, hb0⟩; have hb' := Below.alloc hb0 hb0.size (.cells #[.int .i64 2, .int .i64 c.kind, .int .i64 c.client, .int .i64 c.seq, .string c.key, .string c.val, .int .i64 c.rev, .slice A m cap, .int .i64 q, .int .i64 t] 42); have Db : Blk (w18.alloc (.cells #[.int .i64 2, .int .i64 c.kind, .int .i64 c.client, .int .i64 c.seq, .string c.key, .string c.val, .int .i64 c.rev, .slice A m cap, .int .i64 q, .int .i64 t] 42)) w18.heap.size 42 #[.int .i64 2, .int .i64 c.kind, .int .i64 c.client, .int .i64 c.seq, .string c.key, .string c.val, .int .i64 c.rev, .slice A m cap, .int .i64 q, .int .i64 t] := Blk.new _ _ _; clear hb0; have Pn := P.keep hb'; have On := own_keep8 hown hb'; have Sn := hS.keep hb'; clear P hown hS lr ibc cbc abc obc hb'; have P := Pn; have hown := On; have hS := Sn; clear Pn On Sn; have lr := rec_load P.rb; have ibc := P.p.ib.cell; have cbc := P.p.cb.cell; have abc := P.p.ab.cell; have obc := P.p.ob.cell; have Dc := Db.cell) | (go_at_call 14; (with_reducible refine (hsm1 _ P.ids).mono ?_); rintro e w' ⟨rfl, hb'⟩; clear Dc Db; have Pn := P.keep hb'; have On := own_keep8 hown hb'; have Sn := hS.keep hb'; clear P hown hS lr ibc cbc abc obc hb'; have P := Pn; have hown := On; have hS := Sn; clear Pn On Sn; have lr := rec_load P.rb; have ibc := P.p.ib.cell; have cbc := P.p.cb.cell; have abc := P.p.ab.cell; have obc := P.p.ob.cell))
        cases x
        case true =>
          go_wp2_with (first | (go_at_call 14; (with_reducible refine (hsm2 _ P.ids P.ido).mono ?_); rintro e w' ⟨rfl, hb'⟩; have Pn := P.keep hb'; have On := own_keep8 hown hb'; have Sn := hS.keep hb'; clear P hown hS lr ibc cbc abc obc hb'; have P := Pn; have hown := On; have hS := Sn; clear Pn On Sn; have lr := rec_load P.rb; have ibc := P.p.ib.cell; have cbc := P.p.cb.cell; have abc := P.p.ab.cell; have obc := P.p.ob.cell) | (go_at_call 11; (with_reducible refine (AW.out _ P.p.hb).mono ?_); rintro e w' ⟨rfl, hb'⟩; have Pn := P.keep hb'; have On := own_keep8 hown hb'; have Sn := hS.keep hb'; clear P hown hS lr ibc cbc abc obc hb'; have P := Pn; have hown := On; have hS := Sn; clear Pn On Sn; have lr := rec_load P.rb; have ibc := P.p.ib.cell; have cbc := P.p.cb.cell; have abc := P.p.ab.cell; have obc := P.p.ob.cell))
          go_ret
          exact ⟨rfl, P.p.hb⟩
        go_upto_region 21 with (go_at_call 14; (with_reducible refine (hsm2 _ P.ids P.ido).mono ?_); rintro e w' ⟨rfl, hb'⟩; have Pn := P.keep hb'; have On := own_keep8 hown hb'; have Sn := hS.keep hb'; clear P hown hS lr ibc cbc abc obc hb'; have P := Pn; have hown := On; have hS := Sn; clear Pn On Sn; have lr := rec_load P.rb; have ibc := P.p.ib.cell; have cbc := P.p.cb.cell; have abc := P.p.ab.cell; have obc := P.p.ob.cell)
        obtain ⟨jj, hjj, hjl⟩ : ∃ jj : Nat, (jj : Int) = pickV od n ∧ jj < n := ⟨(pickV od n).toNat, by
          have := pickV_range (k := od) (n := (n : Int)) (by omega)
          omega, by
          have := pickV_range (k := od) (n := (n : Int)) (by omega)
          omega⟩
        have hpk := fun W => pick_any od n W (by omega) (by omega) (by simp [Lit.wf, IntKind.min, IntKind.max, IntKind.bits, IntKind.signed]; omega)
        rw [← hjj] at hpk
        have hw10 : IntKind.i64.wrap od = od := IntWalk.i64_in _ (by omega)
        have hjj0 : (0 : Int) ≤ (jj : Int) := by omega
        have hjj1 : (jj : Int) < (n : Int) := by omega
        clear hjj
        have Hn2 : Hid (2 ≤ ss.length) := Lib.hid (by omega)
        have HLN := Lib.hid hln
        clear hln
        have Hdec : Hid (∀ (ss' : List SeenT) (s0' : SeenT) (W : World), Below w.heap.size w W → SeensAt W (some ⟨g9, 0, none⟩) n ss' → ss'[0]? = some s0' → Good j h 1 ss' → Calls Tryd.prog 13 #[.int .i64 j, .agg #[.int .i64 h, .int .i64 1], .slice (some ⟨g9, 0, none⟩) n c9] W (Gives W (decF (decD h ss' s0'.r).1 (decD h ss' s0'.r).2))) := Lib.hid (fun ss' s0' W hb hs h0 hg => decide_any j h 1 (some ⟨g9, 0, none⟩) n c9 ss' s0' W hs h0 hg (HT.out.keep hb) (by omega) (by omega) (by omega) (by rw [HQ.out]; omega))
        have HA3 : Hid (w.heap.size + 3 ≤ gi ∧ gi < gr ∧ gr < gu ∧ gu < g9) := Lib.hid ⟨by omega, by omega, by omega, by omega⟩
        replace P := P.keep (Below.refl _ _).drew
        replace hown := own_keep8 hown (Below.refl _ _).drew
        replace hS := hS.keep (Below.refl _ _).drew
        clear lr ibc cbc abc obc Hd1
        (refine wp_region_held_drew (S := (SL gu #[.int .i64 u.i, .int .i64 u.n, .int .i64 u.st, .int .i64 u.br, .int .i64 u.bb, .int .i64 u.tr, .int .i64 u.tb, .int .i64 u.k, .int .i64 u.c, .int .i64 u.q, .string u.y, .string u.x, .int .i64 u.r, .slice u.A u.m u.cap, .int .i64 u.sq, .int .i64 u.tg])) (by kernel_rfl) ?_ (fun hHeld => ?_); (· exact P.ub.sl))
        (refine take_op (i := 0) (v := ?_) rfl (by kernel_rfl) (by kernel_rfl) (by kernel_rfl) (fun _ _ _ h => h) (by rfl) ?_ hHeld ?_; rotate_left; (· (intro wS hSw; (try dsimp only at hSw); go_simp; first | done | with_reducible rfl)); simp only [Act.put, List.setIfInBounds_toArray, List.set_cons_zero, List.set_cons_succ]); (refine take_op (i := 1) (v := ?_) rfl (by kernel_rfl) (by kernel_rfl) (by kernel_rfl) (fun _ _ _ h => h) (by rfl) ?_ hHeld ?_; rotate_left; (· (intro wS hSw; (try dsimp only at hSw); go_simp; first | done | with_reducible rfl)); simp only [Act.put, List.setIfInBounds_toArray, List.set_cons_zero, List.set_cons_succ]); (refine take_op (i := 2) (v := ?_) rfl (by kernel_rfl) (by kernel_rfl) (by kernel_rfl) (fun _ _ _ h => h) (by rfl) ?_ hHeld ?_; rotate_left; (· (intro wS hSw; (try dsimp only at hSw); go_simp; first | done | with_reducible rfl)); simp only [Act.put, List.setIfInBounds_toArray, List.set_cons_zero, List.set_cons_succ]); (refine take_op (i := 3) (v := ?_) rfl (by kernel_rfl) (by kernel_rfl) (by kernel_rfl) (fun _ _ _ h => h) (by rfl) ?_ hHeld ?_; rotate_left; (· (intro wS hSw; (try dsimp only at hSw); go_simp; first | done | with_reducible rfl)); simp only [Act.put, List.setIfInBounds_toArray, List.set_cons_zero, List.set_cons_succ]); (refine take_op (i := 4) (v := ?_) rfl (by kernel_rfl) (by kernel_rfl) (by kernel_rfl) (fun _ _ _ h => h) (by rfl) ?_ hHeld ?_; rotate_left; (· (intro wS hSw; (try dsimp only at hSw); go_simp; first | done | with_reducible rfl)); simp only [Act.put, List.setIfInBounds_toArray, List.set_cons_zero, List.set_cons_succ]); (refine take_op (i := 6) (v := ?_) rfl (by kernel_rfl) (by kernel_rfl) (by kernel_rfl) (fun _ _ _ h => h) (by rfl) ?_ hHeld ?_; rotate_left; (· (intro wS hSw; (try dsimp only at hSw); go_simp; first | done | with_reducible rfl)); simp only [Act.put, List.setIfInBounds_toArray, List.set_cons_zero, List.set_cons_succ])
        (refine call_op (i := 5) rfl (by kernel_rfl) (by rfl) (fun K hK => ?_); go_simp; (go_at_call 15; (with_reducible refine (hpk _).mono ?_); rintro e w19 ⟨rfl, hb'⟩; replace P := P.keep hb'; replace hown := own_keep8 hown hb'; replace hS := hS.keep hb'; clear hb'); refine hK.out _ _ P.ub.sl (fun hHeld2 => ?_); clear hK K hHeld; have hHeld := hHeld2; clear hHeld2; (try simp only [Act.put, List.setIfInBounds_toArray, List.set_cons_zero, List.set_cons_succ]))
        (refine take_op (i := 7) (v := ?_) rfl (by kernel_rfl) (by kernel_rfl) (by kernel_rfl) (fun _ _ _ h => h) (by rfl) ?_ hHeld ?_; rotate_left; (· (intro wS hSw; (try dsimp only at hSw); go_simp; first | done | with_reducible rfl)); simp only [Act.put, List.setIfInBounds_toArray, List.set_cons_zero, List.set_cons_succ]); (refine take_op (i := 8) (v := ?_) rfl (by kernel_rfl) (by kernel_rfl) (by kernel_rfl) (fun _ _ _ h => h) (by rfl) ?_ hHeld ?_; rotate_left; (· (intro wS hSw; (try dsimp only at hSw); go_simp; first | done | with_reducible rfl)); simp only [Act.put, List.setIfInBounds_toArray, List.set_cons_zero, List.set_cons_succ])
        have sr := rec_store_at (own_there hown hjl) u
        have P2 := P.put HI.out HIo.out HA3.out.1 HA3.out.2.1 HA3.out.2.2.1 (g := g9) (off := jj * 17 + 1) HA3.out.2.2.2 #[.int .i64 u.i, .int .i64 u.n, .int .i64 u.st, .int .i64 u.br, .int .i64 u.bb, .int .i64 u.tr, .int .i64 u.tb, .int .i64 u.k, .int .i64 u.c, .int .i64 u.q, .string u.y, .string u.x, .int .i64 u.r, .slice u.A u.m u.cap, .int .i64 u.sq, .int .i64 u.tg]
        (refine call_op (i := 9) rfl (by kernel_rfl) (by rfl) (fun K hK => ?_); go_simp; skip; refine hK.out _ _ P2.ub.sl (fun hHeld2 => ?_); clear hK K hHeld; have hHeld := hHeld2; clear hHeld2; (try simp only [Act.put, List.setIfInBounds_toArray, List.set_cons_zero, List.set_cons_succ]))
        (refine wpAnyH_done (by kernel_rfl) ?_ _)
        obtain ⟨s9, hs9⟩ : ∃ s9, ss[jj]? = some s9 := ⟨_, List.getElem?_eq_getElem (show jj < ss.length by rw [HLN.out]; exact hjl)⟩
        have S2 := hS.put (own_there hown hjl) hs9 u (fun x hx => by
          rcases List.mem_or_eq_of_mem_set hx with h' | h'
          · rw [(HM.out x h').1]; exact ROk.out _ P2.ids
          · rw [h']; exact UOk.out _ P2.ido)
        obtain ⟨s00, hs00⟩ : ∃ s00, (ss.set jj ⟨s9.f, u⟩)[0]? = some s00 := ⟨_, List.getElem?_eq_getElem (by rw [List.length_set]; have := Hn2.out; omega)⟩
        have hd3 : ∃ (Ax : Option Addr) (mx cx : Nat) (qx tx : Int), ∀ W, Below w.heap.size w W → SeensAt W (some ⟨g9, 0, none⟩) n (ss.set jj ⟨s9.f, u⟩) → Calls Tryd.prog 13 #[.int .i64 j, .agg #[.int .i64 h, .int .i64 1], .slice (some ⟨g9, 0, none⟩) n c9] W (Gives W (.agg #[.int .i64 3, .int .i64 c.kind, .int .i64 c.client, .int .i64 c.seq, .string c.key, .string c.val, .int .i64 c.rev, .slice Ax mx cx, .int .i64 qx, .int .i64 tx])) := by
          have hg2 := good_set (u := u) HG.out hs9 (by rw [Hu.out]; exact peq_iff.2 ⟨rfl, rfl⟩) x2
          rcases slow_set (r := r) (u := u) (ir := h) (fun s hs => (HM.out s hs).1) hs9 Hn2.out (by rw [Hr.out]) (by rw [Hu.out]) (by rw [Hr.out, Hu.out]; exact Hx.out.symm) hs00 with h' | h'
          · refine ⟨A, m, cap, q, t, fun W hb hs => ?_⟩
            have h3 := Hdec.out _ s00 W hb hs hs00 hg2
            rw [h', Hr.out] at h3
            exact h3
          · refine ⟨Ao, mo, co, qo, to_, fun W hb hs => ?_⟩
            have h3 := Hdec.out _ s00 W hb hs hs00 hg2
            rw [h', Hu.out] at h3
            exact h3
        obtain ⟨Ax, mx, cx, qx, tx, hd3⟩ := hd3
        have Hd3 := Lib.hid hd3
        clear hd3 hHeld sr hS hown P hpk
        revert P2 S2
        generalize recAt _ _ _ _ = w30
        intro P2 S2
        have cbc := P2.p.cb.cell
        have ibc := P2.p.ib.cell
        go_wp2_with (first | (go_at_call 13; (with_reducible refine (Hd3.out _ P2.p.hb S2).mono ?_); rintro e w31 ⟨rfl, hb0⟩; have hb' := Below.alloc hb0 hb0.size (.cells #[.int .i64 3, .int .i64 c.kind, .int .i64 c.client, .int .i64 c.seq, .string c.key, .string c.val, .int .i64 c.rev, .slice Ax mx cx, .int .i64 qx, .int .i64 tx] 42); have Db : Blk (w31.alloc (.cells #[.int .i64 3, .int .i64 c.kind, .int .i64 c.client, .int .i64 c.seq, .string c.key, .string c.val, .int .i64 c.rev, .slice Ax mx cx, .int .i64 qx, .int .i64 tx] 42)) w31.heap.size 42 #[.int .i64 3, .int .i64 c.kind, .int .i64 c.client, .int .i64 c.seq, .string c.key, .string c.val, .int .i64 c.rev, .slice Ax mx cx, .int .i64 qx, .int .i64 tx] := Blk.new _ _ _; replace P2 := P2.keep hb'; clear hb0 hb' ibc cbc S2; have Dc := Db.cell; have cbc := P2.p.cb.cell) | (go_at_call 11; (with_reducible refine (AW.out _ P2.p.hb).mono ?_); rintro e w32 ⟨rfl, hb'⟩; replace P2 := P2.keep hb'; clear hb' Db Dc cbc))
        go_ret
        exact ⟨rfl, P2.p.hb⟩)
  rw [← HF.out, ← HA0.out]
  have hHeld : S3c gi w.heap.size (w.heap.size + 1) #[.int .i64 h, .int .i64 1] #[.int .i64 c.kind, .int .i64 c.client, .int .i64 c.seq, .string c.key, .string c.val, .int .i64 c.rev] #[.slice A m cap, .int .i64 q, .int .i64 t] w0 := ⟨P.ib.cell, P.cb.cell, P.ab.cell⟩
  have zi := P.ib.lt
  refine two_op (i := 3) (j := 7) rfl rfl (by kernel_rfl) (by rfl) (by rfl) ?_ ?_
  · intro K hK
    go_simp
    go_at_call 9
    with_reducible refine (hfi _).mono ?_
    rintro e w1 ⟨rfl, hb1⟩
    have P1 := P.keep hb1
    have zi1 := P1.ib.lt
    refine hK.out _ _ ⟨P1.ib.cell, P1.cb.cell, P1.ab.cell⟩ (fun hHeld2 => ?_)
    clear hK K hHeld
    have hHeld := hHeld2
    clear hHeld2
    try simp only [Act.put, List.setIfInBounds_toArray, List.set_cons_zero, List.set_cons_succ]
    (refine take_op (i := 6) (v := ?_) rfl (by kernel_rfl) (by kernel_rfl) (by kernel_rfl) (fun _ _ _ h => h) (by rfl) ?_ hHeld ?_; rotate_left; (· (intro wS hSw; (try dsimp only at hSw); go_simp; first | done | with_reducible rfl)); simp only [Act.put, List.setIfInBounds_toArray, List.set_cons_zero, List.set_cons_succ])
    have P2 := P1.keep (below_one (.cells #[.int .i64 0, .int .i64 0, .int .i64 0, .int .i64 0, .int .i64 0, .int .i64 0, .int .i64 0, .int .i64 0, .int .i64 0, .int .i64 0, .string ⟨#[]⟩, .string ⟨#[]⟩, .int .i64 0, .slice none 0 0, .int .i64 0, .int .i64 0] 33))
    (refine call_op (i := 7) rfl (by kernel_rfl) (by rfl) (fun K hK => ?_); go_simp; skip; refine hK.out _ _ ⟨P2.ib.cell, P2.cb.cell, P2.ab.cell⟩ (fun hHeld2 => ?_); clear hK K hHeld; have hHeld := hHeld2; clear hHeld2; (try simp only [Act.put, List.setIfInBounds_toArray, List.set_cons_zero, List.set_cons_succ]))
    have h := fin.out _ w1.heap.size P2 (Blk.new _ _ _) zi1
    rw [← HA0.out] at h
    simp only [Act.put, List.setIfInBounds_toArray, List.set_cons_zero, List.set_cons_succ] at h
    rw [HF.out]
    exact h
  · intro K hK
    go_simp
    have P1 := P.keep (below_one (.cells #[.int .i64 0, .int .i64 0, .int .i64 0, .int .i64 0, .int .i64 0, .int .i64 0, .int .i64 0, .int .i64 0, .int .i64 0, .int .i64 0, .string ⟨#[]⟩, .string ⟨#[]⟩, .int .i64 0, .slice none 0 0, .int .i64 0, .int .i64 0] 33))
    have Z1 := Blk.new w0 33 #[.int .i64 0, .int .i64 0, .int .i64 0, .int .i64 0, .int .i64 0, .int .i64 0, .int .i64 0, .int .i64 0, .int .i64 0, .int .i64 0, .string ⟨#[]⟩, .string ⟨#[]⟩, .int .i64 0, .slice none 0 0, .int .i64 0, .int .i64 0]
    refine hK.out _ _ ⟨P1.ib.cell, P1.cb.cell, P1.ab.cell⟩ (fun hHeld2 => ?_)
    clear hK K hHeld
    have hHeld := hHeld2
    clear hHeld2
    try simp only [Act.put, List.setIfInBounds_toArray, List.set_cons_zero, List.set_cons_succ]
    (refine call_op (i := 3) rfl (by kernel_rfl) (by rfl) (fun K hK => ?_); go_simp; (go_at_call 9; (with_reducible refine (hfi _).mono ?_); rintro e w1 ⟨rfl, hb1⟩; have P2 := P1.keep hb1; have Z2 := Blk.keep Z1 hb1); refine hK.out _ _ ⟨P2.ib.cell, P2.cb.cell, P2.ab.cell⟩ (fun hHeld2 => ?_); clear hK K hHeld; have hHeld := hHeld2; clear hHeld2; (try simp only [Act.put, List.setIfInBounds_toArray, List.set_cons_zero, List.set_cons_succ]))
    (refine take_op (i := 6) (v := ?_) rfl (by kernel_rfl) (by kernel_rfl) (by kernel_rfl) (fun _ _ _ h => h) (by rfl) ?_ hHeld ?_; rotate_left; (· (intro wS hSw; (try dsimp only at hSw); go_simp; first | done | with_reducible rfl)); simp only [Act.put, List.setIfInBounds_toArray, List.set_cons_zero, List.set_cons_succ])
    have h := fin.out _ w0.heap.size P2 Z2 zi
    rw [← HA0.out] at h
    simp only [Act.put, List.setIfInBounds_toArray, List.set_cons_zero, List.set_cons_succ] at h
    rw [HF.out]
    exact h
end Go.Proofs.YtmgiholmhhjpaaaDoor
