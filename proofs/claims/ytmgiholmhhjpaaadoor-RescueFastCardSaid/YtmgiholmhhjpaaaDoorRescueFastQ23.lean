/- The walk of the law RescueAccepted. -/
import Derived.Test.YtmgiholmhhjpaaaDoorRescueFastQ21
import Derived.WalkKit
import Derived.WalkSpells
import Derived.WalkLawsBesides
import Derived.Deep.RegionHeld3
import Derived.Deep.DrawnRows
import Derived.Deep.DeepCutAuto
import Derived.Deep.DeepFit
import Derived.Lib.Hide
import Derived.BigQuiet
import Derived.Deep.QuietTactic
namespace Go.Proofs.YtmgiholmhhjpaaaDoor
open Go.RowKit
set_option linter.unusedVariables false
set_option linter.unusedSimpArgs false
set_option maxRecDepth 20000
attribute [local go_sem ↓] Go.wp_at_zero Go.wp_at_succ
attribute [local go_sem] World.cell?_alloc_some frozen_alloc_some
attribute [local go_sem ↓ high] loadVar_rec storeVar_rec loadVar_seen storeVar_seen loadVar_dec storeVar_dec cmd_eql_run
attribute [local go_sem] rec_store_new seen_store_new dec_store_new

theorem pick_emod {k n : Int} (h : 1 ≤ n) : pickV k n = k % n := by
  obtain ⟨a, b⟩ := pickV_range (k := k) h
  have hd := Int.tmod_def k n
  have : ∃ q, k = pickV k n + n * q := by
    unfold pickV
    split
    · exact ⟨k.tdiv n - 1, by rw [Int.mul_sub, Int.mul_one]; omega⟩
    · exact ⟨k.tdiv n, by omega⟩
  obtain ⟨q, hq⟩ := this
  have h2 : k % n = (pickV k n + n * q) % n := by rw [← hq]
  rw [h2, Int.add_mul_emod_self_left, Int.emod_eq_of_lt a b]
/-- What the law has laid. -/
structure RS (w : World) (ir inn : Int) (c o : CmdT) (A : Option Addr) (m cap : Nat) (q t : Int) (l : List IdP) (r u : RecT) (gr : Nat) (W : World) : Prop where
  hb : Below w.heap.size w W
  ib : Blk W w.heap.size 28 #[.int .i64 ir, .int .i64 inn]
  cb : Blk W (w.heap.size + 1) 23 #[.int .i64 c.kind, .int .i64 c.client, .int .i64 c.seq, .string c.key, .string c.val, .int .i64 c.rev]
  ob : Blk W (w.heap.size + 1 + 1) 23 #[.int .i64 o.kind, .int .i64 o.client, .int .i64 o.seq, .string o.key, .string o.val, .int .i64 o.rev]
  ab : Blk W (w.heap.size + 1 + 1 + 1) 26 #[.slice A m cap, .int .i64 q, .int .i64 t]
  rb : Blk W gr 33 #[.int .i64 r.i, .int .i64 r.n, .int .i64 r.st, .int .i64 r.br, .int .i64 r.bb, .int .i64 r.tr, .int .i64 r.tb, .int .i64 r.k, .int .i64 r.c, .int .i64 r.q, .string r.y, .string r.x, .int .i64 r.r, .slice r.A r.m r.cap, .int .i64 r.sq, .int .i64 r.tg]
  ub : Blk W (gr + 1) 33 #[.int .i64 u.i, .int .i64 u.n, .int .i64 u.st, .int .i64 u.br, .int .i64 u.bb, .int .i64 u.tr, .int .i64 u.tb, .int .i64 u.k, .int .i64 u.c, .int .i64 u.q, .string u.y, .string u.x, .int .i64 u.r, .slice u.A u.m u.cap, .int .i64 u.sq, .int .i64 u.tg]
  ids : IdsAt W A m l
theorem RS.keep {w W W' : World} {ir inn : Int} {c o : CmdT} {A : Option Addr} {m cap : Nat} {q t : Int} {l : List IdP} {r u : RecT} {gr : Nat} (h : RS w ir inn c o A m cap q t l r u gr W) (hb : Below W.heap.size W W') : RS w ir inn c o A m cap q t l r u gr W' :=
  ⟨below_call h.hb hb h.hb.size, h.ib.keep hb, h.cb.keep hb, h.ob.keep hb, h.ab.keep hb, h.rb.keep hb, h.ub.keep hb, h.ids.keep hb⟩
theorem RS.app {w W W' : World} {ir inn : Int} {c o : CmdT} {A : Option Addr} {m cap : Nat} {q t : Int} {l : List IdP} {r u : RecT} {gr : Nat} (h : RS w ir inn c o A m cap q t l r u gr W) (hI : IdsAt w A m l) (hs : w.heap.size + 4 ≤ gr) {e : TypeId} {size : Nat} {v : Value} {n : Nat} {xs : List Value} (ho : W.ownsRow (gr + 2) e size v n xs) (hg : W.grownBy W' v.ownBlock) : RS w ir inn c o A m cap q t l r u gr W' :=
  have far : ∀ k, k < gr + 2 → some k ≠ v.ownBlock := fun k hk e => by have := (ho.lt _ e.symm).1; omega
  have hb : Below w.heap.size w W' := below_app h.hb ho hg (by omega) h.hb.size
  ⟨hb, (hg.block _ h.ib.lt (far _ (by omega))).trans h.ib, (hg.block _ h.cb.lt (far _ (by omega))).trans h.cb, (hg.block _ h.ob.lt (far _ (by omega))).trans h.ob, (hg.block _ h.ab.lt (far _ (by omega))).trans h.ab, (hg.block _ h.rb.lt (far _ (by omega))).trans h.rb, (hg.block _ h.ub.lt (far _ (by omega))).trans h.ub, hI.keep hb⟩
theorem window {N Q : Nat} {a b : Int} (h : N = 3 ∨ N = 5 ∨ N = 7) (hQ : 2 * Q = N + 1) : ∃ k, k < Q ∧ pickV (((k : Int) + a) % N - b) N < Q := by
  have hN : (1 : Int) ≤ N := by omega
  have hd0 := Int.emod_nonneg (a - b) (b := (N : Int)) (by omega)
  have hd1 := Int.emod_lt_of_pos (a - b) (b := (N : Int)) (by omega)
  by_cases hd : (a - b) % N < Q
  · refine ⟨0, by omega, ?_⟩
    rw [pick_emod hN]
    rcases h with rfl | rfl | rfl <;> omega
  · refine ⟨N - ((a - b) % N).toNat, by omega, ?_⟩
    rw [pick_emod hN]
    rcases h with rfl | rfl | rfl <;> omega
theorem whose {N Q : Nat} {a : Int} (h : N = 3 ∨ N = 5 ∨ N = 7) (hQ : 2 * Q = N + 1) {i j : Nat} (hi : i < Q) (hj : j < Q) (e : ((i : Int) + a) % N = ((j : Int) + a) % N) : i = j := by
  rcases h with rfl | rfl | rfl <;> omega
set_option maxHeartbeats 16000000 in
theorem rescacc_walk (f ir inn : Int) (c o : CmdT) (A : Option Addr) (m cap : Nat) (q t : Int) (l : List IdP) (rd ea fi se : Int) (w : World) (hT : Tabs w) (hf : (Lit.int .u8 f).wf = true) (wi : (Lit.int .i64 ir).wf = true) (wn : (Lit.int .i64 inn).wf = true) (hc : c.Ok) (ho : o.Ok)
    (hmc : m ≤ cap) (hcm : cap ≤ maxLen) (hI : IdsAt w A m l) (wq : (Lit.int .i64 q).wf = true) (wt : (Lit.int .i64 t).wf = true) (hrd : (Lit.int .u8 rd).wf = true) (hea : (Lit.int .u8 ea).wf = true) (hfi : (Lit.int .u8 fi).wf = true) (hse : (Lit.int .u8 se).wf = true) :
    Calls Tryd.prog 4 #[.int .u8 f, .agg #[.int .i64 ir, .int .i64 inn], c.v, o.v, .agg #[.slice A m cap, .int .i64 q, .int .i64 t], .int .u8 rd, .int .u8 ea, .int .u8 fi, .int .u8 se] w (Gives w (.bool true)) := by
  have hf' := wf_u8 hf
  have hrd' := wf_u8 hrd
  have hea' := wf_u8 hea
  have hfi' := wf_u8 hfi
  have hse' := wf_u8 hse
  clear hf hrd hea hfi hse
  obtain ⟨N, hN, hN3⟩ : ∃ N : Nat, (N : Int) = 3 + 2 * (f % 3) ∧ (N = 3 ∨ N = 5 ∨ N = 7) := ⟨(3 + 2 * (f % 3)).toNat, by omega, by omega⟩
  have hrem : f.tmod 3 = f % 3 := Int.tmod_eq_emod_of_nonneg hf'.1
  have hw0 : IntKind.i64.wrap f = f := IntWalk.i64_in _ (by omega)
  have hw1 : IntKind.i64.wrap (f % 3) = f % 3 := IntWalk.i64_in _ (by omega)
  have hw2 : IntKind.i64.wrap (2 * (f % 3)) = 2 * (f % 3) := IntWalk.i64_in _ (by omega)
  have hw3 : IntKind.i64.wrap (3 + 2 * (f % 3)) = N := by rw [hN]; exact IntWalk.i64_in _ (by omega)
  have hw4 : IntKind.i64.wrap rd = rd := IntWalk.i64_in _ (by omega)
  have hw5 : IntKind.i64.wrap (2 + rd) = 2 + rd := IntWalk.i64_in _ (by omega)
  have hw6 : IntKind.i64.wrap ea = ea := IntWalk.i64_in _ (by omega)
  have hrem2 : ea.tmod (2 + rd) = ea % (2 + rd) := Int.tmod_eq_emod_of_nonneg hea'.1
  have hz1 : ((2 + rd : Int) == 0) = false := by simp; omega
  have hz1' : ((2 + rd : Int) = 0) = False := by simp; omega
  have e0 : 0 ≤ ea % (2 + rd) := Int.emod_nonneg _ (by omega)
  have e1 : ea % (2 + rd) < 2 + rd := Int.emod_lt_of_pos _ (by omega)
  obtain ⟨er, her⟩ : ∃ er, er = ea % (2 + rd) := ⟨_, rfl⟩
  rw [← her] at hrem2 e0 e1
  have hw7 : IntKind.i64.wrap er = er := IntWalk.i64_in _ (by omega)
  have hrem3 : ea.tmod 3 = ea % 3 := Int.tmod_eq_emod_of_nonneg hea'.1
  obtain ⟨e3, he3⟩ : ∃ e3, e3 = ea % 3 := ⟨_, rfl⟩
  rw [← he3] at hrem3
  have hw8 : IntKind.u8.wrap e3 = e3 := IntWalk.u8_in _ (by omega)
  clear her he3
  obtain ⟨hr, hhr⟩ : ∃ hr, hr = 2 + rd := ⟨_, rfl⟩
  obtain ⟨r, hr0⟩ : ∃ r : RecT, r = ⟨ir, inn, 2, 300, 0, 2 + rd, 1, c.kind, c.client, c.seq, c.key, c.val, c.rev, A, m, cap, q, t, l⟩ := ⟨_, rfl⟩
  obtain ⟨u, hu0⟩ : ∃ u : RecT, u = ⟨ir, inn, if e3 = 0 then 1 else 2, 300, 0, er, 0, o.kind, o.client, o.seq, o.key, o.val, o.rev, A, m, cap, q, t, l⟩ := ⟨_, rfl⟩
  have Hr := Lib.hid hr0
  have Hu := Lib.hid hu0
  have HN := Lib.hid hN
  have Hc := Lib.hid hc
  have Ho := Lib.hid ho
  have HI := Lib.hid hI
  have HT := Lib.hid hT
  clear hr0 hu0 hN hhr hc ho hI hT
  unfold CmdT.v
  go_enter Tryd.func4, Tryd.ntmps4
  go_upto_region 3 with fail
  obtain ⟨W5, hW5⟩ : ∃ W5, W5 = ((((w.alloc (.cells #[.int .i64 ir, .int .i64 inn] 28)).alloc (.cells #[.int .i64 c.kind, .int .i64 c.client, .int .i64 c.seq, .string c.key, .string c.val, .int .i64 c.rev] 23)).alloc (.cells #[.int .i64 o.kind, .int .i64 o.client, .int .i64 o.seq, .string o.key, .string o.val, .int .i64 o.rev] 23)).alloc (.cells #[.slice A m cap, .int .i64 q, .int .i64 t] 26)).alloc (.cells #[.int .i64 (2 + rd), .int .i64 1] 30) := ⟨_, rfl⟩
  have k5 : Below w.heap.size w W5 := by rw [hW5]; ((repeat' first | with_reducible exact Below.refl _ _ | with_reducible assumption | with_reducible refine Below.alloc ?_ ?_ _ | with_reducible refine Below.setCell ?_ ?_ _ | with_reducible apply Below.drew | with_reducible apply below_drewN | with_reducible refine below_call ?_ (by with_reducible assumption) ?_) <;> (first | omega | (simp; done) | (simp; omega) | (simp at *; omega)))
  have s5 : w.heap.size + 5 ≤ W5.heap.size := by rw [hW5]; simp
  have ib : Blk W5 w.heap.size 28 #[.int .i64 ir, .int .i64 inn] := by rw [hW5]; exact ((((Blk.new _ _ _).alloc _).alloc _).alloc _).alloc _
  have cb : Blk W5 (w.heap.size + 1) 23 #[.int .i64 c.kind, .int .i64 c.client, .int .i64 c.seq, .string c.key, .string c.val, .int .i64 c.rev] := by rw [hW5]; exact (((Blk.newAt (by simp)).alloc _).alloc _).alloc _
  have ob : Blk W5 (w.heap.size + 1 + 1) 23 #[.int .i64 o.kind, .int .i64 o.client, .int .i64 o.seq, .string o.key, .string o.val, .int .i64 o.rev] := by rw [hW5]; exact ((Blk.newAt (by simp)).alloc _).alloc _
  have ab : Blk W5 (w.heap.size + 1 + 1 + 1) 26 #[.slice A m cap, .int .i64 q, .int .i64 t] := by rw [hW5]; exact (Blk.newAt (by simp)).alloc _
  have bb : Blk W5 (w.heap.size + 1 + 1 + 1 + 1) 30 #[.int .i64 (2 + rd), .int .i64 1] := by rw [hW5]; exact Blk.newAt (by simp)
  rw [← hW5]
  clear hW5
  have rs2 : (storeRec ⟨W5.heap.size + 1, 0, none⟩ (.agg #[.int .i64 ir, .int .i64 inn, .int .i64 2, .int .i64 300, .int .i64 0, .int .i64 (2 + rd), .int .i64 1, .int .i64 c.kind, .int .i64 c.client, .int .i64 c.seq, .string c.key, .string c.val, .int .i64 c.rev, .slice A m cap, .int .i64 q, .int .i64 t])).run Tryd.prog ((W5.alloc (.cells #[.int .i64 ir, .int .i64 inn, .int .i64 2, .int .i64 300, .int .i64 0, .int .i64 (2 + rd), .int .i64 1, .int .i64 c.kind, .int .i64 c.client, .int .i64 c.seq, .string c.key, .string c.val, .int .i64 c.rev, .slice A m cap, .int .i64 q, .int .i64 t] 33)).alloc (.cells #[.int .i64 0, .int .i64 0, .int .i64 0, .int .i64 0, .int .i64 0, .int .i64 0, .int .i64 0, .int .i64 0, .int .i64 0, .int .i64 0, .string ⟨#[]⟩, .string ⟨#[]⟩, .int .i64 0, .slice none 0 0, .int .i64 0, .int .i64 0] 33)) = .ok () ((W5.alloc (.cells #[.int .i64 ir, .int .i64 inn, .int .i64 2, .int .i64 300, .int .i64 0, .int .i64 (2 + rd), .int .i64 1, .int .i64 c.kind, .int .i64 c.client, .int .i64 c.seq, .string c.key, .string c.val, .int .i64 c.rev, .slice A m cap, .int .i64 q, .int .i64 t] 33)).alloc (.cells #[.int .i64 ir, .int .i64 inn, .int .i64 2, .int .i64 300, .int .i64 0, .int .i64 (2 + rd), .int .i64 1, .int .i64 c.kind, .int .i64 c.client, .int .i64 c.seq, .string c.key, .string c.val, .int .i64 c.rev, .slice A m cap, .int .i64 q, .int .i64 t] 33)) := by
    have := rec_store_new (W5.alloc (.cells #[.int .i64 ir, .int .i64 inn, .int .i64 2, .int .i64 300, .int .i64 0, .int .i64 (2 + rd), .int .i64 1, .int .i64 c.kind, .int .i64 c.client, .int .i64 c.seq, .string c.key, .string c.val, .int .i64 c.rev, .slice A m cap, .int .i64 q, .int .i64 t] 33)) (.int .i64 0) (.int .i64 0) (.int .i64 0) (.int .i64 0) (.int .i64 0) (.int .i64 0) (.int .i64 0) (.int .i64 0) (.int .i64 0) (.int .i64 0) (.string ⟨#[]⟩) (.string ⟨#[]⟩) (.int .i64 0) (.slice none 0 0) (.int .i64 0) (.int .i64 0) ir inn 2 300 0 (2 + rd) 1 c.kind c.client c.seq c.key c.val c.rev A m cap q t
    rw [World.size_alloc] at this
    exact this
  have lr2 := rec_load (Blk.new W5 33 #[.int .i64 ir, .int .i64 inn, .int .i64 2, .int .i64 300, .int .i64 0, .int .i64 (2 + rd), .int .i64 1, .int .i64 c.kind, .int .i64 c.client, .int .i64 c.seq, .string c.key, .string c.val, .int .i64 c.rev, .slice A m cap, .int .i64 q, .int .i64 t])
  have ibc := ib.cell
  have cbc := cb.cell
  have obc := ob.cell
  have abc := ab.cell
  have bbc := bb.cell
  have il := ib.lt
  go_upto_region 7 with fail
  have kW : Below W5.heap.size W5 ((W5.alloc (.cells #[.int .i64 ir, .int .i64 inn, .int .i64 2, .int .i64 300, .int .i64 0, .int .i64 (2 + rd), .int .i64 1, .int .i64 c.kind, .int .i64 c.client, .int .i64 c.seq, .string c.key, .string c.val, .int .i64 c.rev, .slice A m cap, .int .i64 q, .int .i64 t] 33)).alloc (.cells #[.int .i64 ir, .int .i64 inn, .int .i64 1, .int .i64 300, .int .i64 0, .int .i64 er, .int .i64 0, .int .i64 o.kind, .int .i64 o.client, .int .i64 o.seq, .string o.key, .string o.val, .int .i64 o.rev, .slice A m cap, .int .i64 q, .int .i64 t] 33)) := by ((repeat' first | with_reducible exact Below.refl _ _ | with_reducible assumption | with_reducible refine Below.alloc ?_ ?_ _ | with_reducible refine Below.setCell ?_ ?_ _ | with_reducible apply Below.drew | with_reducible apply below_drewN | with_reducible refine below_call ?_ (by with_reducible assumption) ?_) <;> (first | omega | (simp; done) | (simp; omega) | (simp at *; omega)))
  have kW2 : Below W5.heap.size W5 ((W5.alloc (.cells #[.int .i64 ir, .int .i64 inn, .int .i64 2, .int .i64 300, .int .i64 0, .int .i64 (2 + rd), .int .i64 1, .int .i64 c.kind, .int .i64 c.client, .int .i64 c.seq, .string c.key, .string c.val, .int .i64 c.rev, .slice A m cap, .int .i64 q, .int .i64 t] 33)).alloc (.cells #[.int .i64 ir, .int .i64 inn, .int .i64 2, .int .i64 300, .int .i64 0, .int .i64 er, .int .i64 0, .int .i64 o.kind, .int .i64 o.client, .int .i64 o.seq, .string o.key, .string o.val, .int .i64 o.rev, .slice A m cap, .int .i64 q, .int .i64 t] 33)) := by ((repeat' first | with_reducible exact Below.refl _ _ | with_reducible assumption | with_reducible refine Below.alloc ?_ ?_ _ | with_reducible refine Below.setCell ?_ ?_ _ | with_reducible apply Below.drew | with_reducible apply below_drewN | with_reducible refine below_call ?_ (by with_reducible assumption) ?_) <;> (first | omega | (simp; done) | (simp; omega) | (simp at *; omega)))
  have rOk : ∀ W, IdsAt W A m l → r.Ok W := fun W h => by
    have z : ∀ x : Int, 0 ≤ x → x ≤ 1000 → (Lit.int .i64 x).wf = true := fun x h1 h2 => by simp [Lit.wf, IntKind.min, IntKind.max, IntKind.bits, IntKind.signed]; omega
    rw [Hr.out]
    exact { i := wi, n := wn, st := z 2 (by omega) (by omega), br := z 300 (by omega) (by omega), bb := z 0 (by omega) (by omega), tr := z (2 + rd) (by omega) (by omega), tb := z 1 (by omega) (by omega), k := Hc.out.kind, c := Hc.out.client, q := Hc.out.seq, y := Hc.out.key, x := Hc.out.val, r := Hc.out.rev, m := hmc, cap := hcm, l := h, sq := wq, tg := wt }
  have uOk : ∀ W, IdsAt W A m l → u.Ok W := fun W h => by
    have z : ∀ x : Int, 0 ≤ x → x ≤ 1000 → (Lit.int .i64 x).wf = true := fun x h1 h2 => by simp [Lit.wf, IntKind.min, IntKind.max, IntKind.bits, IntKind.signed]; omega
    rw [Hu.out]
    exact { i := wi, n := wn, st := by (show (Lit.int .i64 (if e3 = 0 then 1 else 2)).wf = true); split <;> decide, br := z 300 (by omega) (by omega), bb := z 0 (by omega) (by omega), tr := z er (by omega) (by omega), tb := z 0 (by omega) (by omega), k := Ho.out.kind, c := Ho.out.client, q := Ho.out.seq, y := Ho.out.key, x := Ho.out.val, r := Ho.out.rev, m := hmc, cap := hcm, l := h, sq := wq, tg := wt }
  have ckr : ∀ W, RS w ir inn c o A m cap q t l r u W5.heap.size W → Calls Tryd.prog 10 #[.agg #[.int .i64 r.i, .int .i64 r.n, .int .i64 r.st, .int .i64 r.br, .int .i64 r.bb, .int .i64 r.tr, .int .i64 r.tb, .int .i64 r.k, .int .i64 r.c, .int .i64 r.q, .string r.y, .string r.x, .int .i64 r.r, .slice r.A r.m r.cap, .int .i64 r.sq, .int .i64 r.tg]] W (Gives W (.int .i64 (recErr (recOk r)))) := fun W h => reccheck_any r W (rOk W h.ids) (HT.out.keep h.hb)
  have cku : ∀ W, RS w ir inn c o A m cap q t l r u W5.heap.size W → Calls Tryd.prog 10 #[.agg #[.int .i64 u.i, .int .i64 u.n, .int .i64 u.st, .int .i64 u.br, .int .i64 u.bb, .int .i64 u.tr, .int .i64 u.tb, .int .i64 u.k, .int .i64 u.c, .int .i64 u.q, .string u.y, .string u.x, .int .i64 u.r, .slice u.A u.m u.cap, .int .i64 u.sq, .int .i64 u.tg]] W (Gives W (.int .i64 (recErr (recOk u)))) := fun W h => reccheck_any u W (uOk W h.ids) (HT.out.keep h.hb)
  have aw : ∀ W, RS w ir inn c o A m cap q t l r u W5.heap.size W → Calls Tryd.prog 11 #[] W (Gives W (.bool true)) := fun W h => awake25 W (HT.out.keep h.hb)
  have ROk := Lib.hid rOk
  have UOk := Lib.hid uOk
  have AW := Lib.hid aw
  clear rOk uOk aw lr2 rs2 ibc cbc obc abc bbc bb
  by_cases z3 : e3 = 0
  · subst z3
    go_upto_region 9 with fail
    have P : RS w ir inn c o A m cap q t l r u W5.heap.size ((W5.alloc (.cells #[.int .i64 ir, .int .i64 inn, .int .i64 2, .int .i64 300, .int .i64 0, .int .i64 (2 + rd), .int .i64 1, .int .i64 c.kind, .int .i64 c.client, .int .i64 c.seq, .string c.key, .string c.val, .int .i64 c.rev, .slice A m cap, .int .i64 q, .int .i64 t] 33)).alloc (.cells #[.int .i64 ir, .int .i64 inn, .int .i64 1, .int .i64 300, .int .i64 0, .int .i64 er, .int .i64 0, .int .i64 o.kind, .int .i64 o.client, .int .i64 o.seq, .string o.key, .string o.val, .int .i64 o.rev, .slice A m cap, .int .i64 q, .int .i64 t] 33)) :=
      ⟨below_call k5 kW k5.size, ib.keep kW, cb.keep kW, ob.keep kW, ab.keep kW, by rw [Hr.out]; exact (Blk.new _ _ _).alloc _, by rw [Hu.out]; exact Blk.newAt (by simp), HI.out.keep (below_call k5 kW k5.size)⟩
    have hust : u.st = 1 ∨ u.st = 2 := by rw [Hu.out]; exact .inl rfl
    revert P
    generalize World.alloc _ _ = W8 at *
    intro P
    have lr := rec_load P.rb
    have lu := rec_load P.ub
    have ibc := P.ib.cell
    have cbc := P.cb.cell
    have obc := P.ob.cell
    have abc := P.ab.cell
    clear kW kW2 ib cb ob ab
    by_cases g1 : 40 < m
    · have g1' : (40 : Int) < (m : Int) := by omega
      go_wp2_with (first | (go_at_call 10; (with_reducible refine (ckr _ P).mono ?_); rintro e w' ⟨rfl, hb'⟩; have Pn := P.keep hb'; clear P lr lu ibc cbc obc abc hb'; have P := Pn; clear Pn; have lr := rec_load P.rb; have lu := rec_load P.ub; have ibc := P.ib.cell; have cbc := P.cb.cell; have obc := P.ob.cell; have abc := P.ab.cell) | (go_at_call 10; (with_reducible refine (cku _ P).mono ?_); rintro e w' ⟨rfl, hb'⟩; have Pn := P.keep hb'; clear P lr lu ibc cbc obc abc hb'; have P := Pn; clear Pn; have lr := rec_load P.rb; have lu := rec_load P.ub; have ibc := P.ib.cell; have cbc := P.cb.cell; have obc := P.ob.cell; have abc := P.ab.cell) | (go_at_call 11; (with_reducible refine (AW.out _ P).mono ?_); rintro e w' ⟨rfl, hb'⟩; have Pn := P.keep hb'; clear P lr lu ibc cbc obc abc hb'; have P := Pn; clear Pn; have lr := rec_load P.rb; have lu := rec_load P.ub; have ibc := P.ib.cell; have cbc := P.cb.cell; have obc := P.ob.cell; have abc := P.ab.cell))
      go_ret
      exact ⟨rfl, P.hb⟩
    have g1' : ¬ (40 : Int) < (m : Int) := by omega
    by_cases g2 : 200 < c.key.size
    · have g2' : (200 : Int) < (c.key.size : Int) := by omega
      go_wp2_with (first | (go_at_call 10; (with_reducible refine (ckr _ P).mono ?_); rintro e w' ⟨rfl, hb'⟩; have Pn := P.keep hb'; clear P lr lu ibc cbc obc abc hb'; have P := Pn; clear Pn; have lr := rec_load P.rb; have lu := rec_load P.ub; have ibc := P.ib.cell; have cbc := P.cb.cell; have obc := P.ob.cell; have abc := P.ab.cell) | (go_at_call 10; (with_reducible refine (cku _ P).mono ?_); rintro e w' ⟨rfl, hb'⟩; have Pn := P.keep hb'; clear P lr lu ibc cbc obc abc hb'; have P := Pn; clear Pn; have lr := rec_load P.rb; have lu := rec_load P.ub; have ibc := P.ib.cell; have cbc := P.cb.cell; have obc := P.ob.cell; have abc := P.ab.cell) | (go_at_call 11; (with_reducible refine (AW.out _ P).mono ?_); rintro e w' ⟨rfl, hb'⟩; have Pn := P.keep hb'; clear P lr lu ibc cbc obc abc hb'; have P := Pn; clear Pn; have lr := rec_load P.rb; have lu := rec_load P.ub; have ibc := P.ib.cell; have cbc := P.cb.cell; have obc := P.ob.cell; have abc := P.ab.cell))
      go_ret
      exact ⟨rfl, P.hb⟩
    have g2' : ¬ (200 : Int) < (c.key.size : Int) := by omega
    by_cases g3 : 200 < o.key.size
    · have g3' : (200 : Int) < (o.key.size : Int) := by omega
      go_wp2_with (first | (go_at_call 10; (with_reducible refine (ckr _ P).mono ?_); rintro e w' ⟨rfl, hb'⟩; have Pn := P.keep hb'; clear P lr lu ibc cbc obc abc hb'; have P := Pn; clear Pn; have lr := rec_load P.rb; have lu := rec_load P.ub; have ibc := P.ib.cell; have cbc := P.cb.cell; have obc := P.ob.cell; have abc := P.ab.cell) | (go_at_call 10; (with_reducible refine (cku _ P).mono ?_); rintro e w' ⟨rfl, hb'⟩; have Pn := P.keep hb'; clear P lr lu ibc cbc obc abc hb'; have P := Pn; clear Pn; have lr := rec_load P.rb; have lu := rec_load P.ub; have ibc := P.ib.cell; have cbc := P.cb.cell; have obc := P.ob.cell; have abc := P.ab.cell) | (go_at_call 11; (with_reducible refine (AW.out _ P).mono ?_); rintro e w' ⟨rfl, hb'⟩; have Pn := P.keep hb'; clear P lr lu ibc cbc obc abc hb'; have P := Pn; clear Pn; have lr := rec_load P.rb; have lu := rec_load P.ub; have ibc := P.ib.cell; have cbc := P.cb.cell; have obc := P.ob.cell; have abc := P.ab.cell))
      go_ret
      exact ⟨rfl, P.hb⟩
    have g3' : ¬ (200 : Int) < (o.key.size : Int) := by omega
    cases x1 : recOk r
    · rw [x1] at ckr
      simp only [recErr] at ckr
      go_wp2_with (first | (go_at_call 10; (with_reducible refine (ckr _ P).mono ?_); rintro e w' ⟨rfl, hb'⟩; have Pn := P.keep hb'; clear P lr lu ibc cbc obc abc hb'; have P := Pn; clear Pn; have lr := rec_load P.rb; have lu := rec_load P.ub; have ibc := P.ib.cell; have cbc := P.cb.cell; have obc := P.ob.cell; have abc := P.ab.cell) | (go_at_call 10; (with_reducible refine (cku _ P).mono ?_); rintro e w' ⟨rfl, hb'⟩; have Pn := P.keep hb'; clear P lr lu ibc cbc obc abc hb'; have P := Pn; clear Pn; have lr := rec_load P.rb; have lu := rec_load P.ub; have ibc := P.ib.cell; have cbc := P.cb.cell; have obc := P.ob.cell; have abc := P.ab.cell) | (go_at_call 11; (with_reducible refine (AW.out _ P).mono ?_); rintro e w' ⟨rfl, hb'⟩; have Pn := P.keep hb'; clear P lr lu ibc cbc obc abc hb'; have P := Pn; clear Pn; have lr := rec_load P.rb; have lu := rec_load P.ub; have ibc := P.ib.cell; have cbc := P.cb.cell; have obc := P.ob.cell; have abc := P.ab.cell))
      go_ret
      exact ⟨rfl, P.hb⟩
    cases x2 : recOk u
    · rw [x1] at ckr
      rw [x2] at cku
      simp only [recErr] at ckr cku
      go_wp2_with (first | (go_at_call 10; (with_reducible refine (ckr _ P).mono ?_); rintro e w' ⟨rfl, hb'⟩; have Pn := P.keep hb'; clear P lr lu ibc cbc obc abc hb'; have P := Pn; clear Pn; have lr := rec_load P.rb; have lu := rec_load P.ub; have ibc := P.ib.cell; have cbc := P.cb.cell; have obc := P.ob.cell; have abc := P.ab.cell) | (go_at_call 10; (with_reducible refine (cku _ P).mono ?_); rintro e w' ⟨rfl, hb'⟩; have Pn := P.keep hb'; clear P lr lu ibc cbc obc abc hb'; have P := Pn; clear Pn; have lr := rec_load P.rb; have lu := rec_load P.ub; have ibc := P.ib.cell; have cbc := P.cb.cell; have obc := P.ob.cell; have abc := P.ab.cell) | (go_at_call 11; (with_reducible refine (AW.out _ P).mono ?_); rintro e w' ⟨rfl, hb'⟩; have Pn := P.keep hb'; clear P lr lu ibc cbc obc abc hb'; have P := Pn; clear Pn; have lr := rec_load P.rb; have lu := rec_load P.ub; have ibc := P.ib.cell; have cbc := P.cb.cell; have obc := P.ob.cell; have abc := P.ab.cell))
      go_ret
      exact ⟨rfl, P.hb⟩
    rw [x1] at ckr
    rw [x2] at cku
    simp only [recErr] at ckr cku
    go_upto_region 13 with (first | (go_at_call 10; (with_reducible refine (ckr _ P).mono ?_); rintro e w' ⟨rfl, hb'⟩; have Pn := P.keep hb'; clear P lr lu ibc cbc obc abc hb'; have P := Pn; clear Pn; have lr := rec_load P.rb; have lu := rec_load P.ub; have ibc := P.ib.cell; have cbc := P.cb.cell; have obc := P.ob.cell; have abc := P.ab.cell) | (go_at_call 10; (with_reducible refine (cku _ P).mono ?_); rintro e w' ⟨rfl, hb'⟩; have Pn := P.keep hb'; clear P lr lu ibc cbc obc abc hb'; have P := Pn; clear Pn; have lr := rec_load P.rb; have lu := rec_load P.ub; have ibc := P.ib.cell; have cbc := P.cb.cell; have obc := P.ob.cell; have abc := P.ab.cell) | (go_at_call 11; (with_reducible refine (AW.out _ P).mono ?_); rintro e w' ⟨rfl, hb'⟩; have Pn := P.keep hb'; clear P lr lu ibc cbc obc abc hb'; have P := Pn; clear Pn; have lr := rec_load P.rb; have lu := rec_load P.ub; have ibc := P.ib.cell; have cbc := P.cb.cell; have obc := P.ob.cell; have abc := P.ab.cell))
    have hNN : 3 ≤ N ∧ N ≤ 7 := by omega
    obtain ⟨Qn, hQ, hQ2⟩ : ∃ Qn : Nat, quo (N : Int) = (Qn : Int) ∧ 2 * Qn = N + 1 := by
      clear lr lu P
      rcases hN3 with h | h | h <;> subst h
      · exact ⟨2, rfl, rfl⟩
      · exact ⟨3, rfl, rfl⟩
      · exact ⟨4, rfl, rfl⟩
    have hqu := fun W => quorum_any (N : Int) W (by omega) (by omega)
    rw [hQ] at hqu
    obtain ⟨ent, hent⟩ : ∃ ent : Nat → SeenT, ent = fun j => ⟨((j : Int) + se) % N, if pickV (((j : Int) + se) % N - fi) N < Qn then r else u⟩ := ⟨_, rfl⟩
    have Hent := Lib.hid hent
    have HQ := Lib.hid hQ
    clear hent hQ
    obtain ⟨i0, hi, hz0, hzz, hz2⟩ := seeninfo
    have hw9 : IntKind.i64.wrap se = se := IntWalk.i64_in _ (by omega)
    have hw10 : IntKind.i64.wrap fi = fi := IntWalk.i64_in _ (by omega)
    have hN0 : ((N : Int) == 0) = false := by simp; omega
    have hN0' : ((N : Int) = 0) = False := by simp; omega
    clear ckr cku
    go_loopw [23, 24] (fun s23 s24 wr => ∃ (j : Nat) (A9 : Option Addr) (c9 : Nat), j ≤ Qn ∧ s23 = .slice A9 j c9 ∧ s24 = .int .i64 j ∧ RS w ir inn c o A m cap q t l r u W5.heap.size wr ∧ wr.ownsRow (W5.heap.size + 2) 40 17 (.slice A9 j c9) j (flatS (lst ent j))) (fun _ s24 _ => Qn - (intOf s24).toNat)
    case atStart => exact ⟨0, none, 0, by omega, rfl, rfl, P, World.ownsRow_nil _ _ _ _⟩
    case round =>
      clear P lr lu ibc cbc obc abc
      obtain ⟨j, A9, c9, hj, rfl, rfl, P, hown⟩ := hrel
      have hzu := P.ub.lt
      have lr := rec_load P.rb
      have lu := rec_load P.ub
      have ibc := P.ib.cell
      have cbc := P.cb.cell
      have obc := P.ob.cell
      have abc := P.ab.cell
      by_cases hlt : j < Qn
      · have j1 : (j : Int) < (Qn : Int) := by omega
        obtain ⟨wh, hwh⟩ : ∃ wh, wh = ((j : Int) + se) % N := ⟨_, rfl⟩
        have v0 : 0 ≤ wh := by rw [hwh]; exact Int.emod_nonneg _ (by omega)
        have v1 : wh < N := by rw [hwh]; exact Int.emod_lt_of_pos _ (by omega)
        have hwr : IntKind.i64.wrap ((j : Int) + se) = (j : Int) + se := IntWalk.i64_in _ (by omega)
        have hrem5 : ((j : Int) + se).tmod N = wh := by rw [hwh]; exact Int.tmod_eq_emod_of_nonneg (by omega)
        have hwr2 : IntKind.i64.wrap wh = wh := IntWalk.i64_in _ (by omega)
        have hwr3 : IntKind.i64.wrap (wh - fi) = wh - fi := IntWalk.i64_in _ (by omega)
        have hpk := fun W => pick_any (wh - fi) N W (by omega) (by omega) (by simp [Lit.wf, IntKind.min, IntKind.max, IntKind.bits, IntKind.signed]; omega)
        obtain ⟨pk, hpk2⟩ : ∃ pk, pk = pickV (wh - fi) N := ⟨_, rfl⟩
        rw [← hpk2] at hpk
        by_cases hin : pk < Qn
        · have Eent : Hid (ent j = ⟨wh, r⟩) := Lib.hid (by rw [Hent.out]; simp only; rw [← hwh, ← hpk2, if_pos hin])
          clear hpk2 hwh
          go_wp2_with (first | (go_at_call 12; refine (hqu _).mono ?_; rintro e w2 ⟨rfl, rfl⟩) | (go_at_call 15; (with_reducible refine (hpk _).mono ?_); rintro e w' ⟨rfl, hb'⟩; have Pn := P.keep hb'; have On := own_keep8 hown hb'; clear P hown lr lu ibc cbc obc abc hb'; have P := Pn; have hown := On; clear Pn On; have lr := rec_load P.rb; have lu := rec_load P.ub; have ibc := P.ib.cell; have cbc := P.cb.cell; have obc := P.ob.cell; have abc := P.ab.cell; have hzu2 := P.ub.lt) | ((at_builtin; go_loud (refine wpList_app _ rfl (.tmp 104) (.tmp 108) 37 rfl _ 40 i0 _ 17 168 Tryd.underlying37 hi hz0 hzz hz2 rfl (by omega) _ _ _ rfl (own_keep8 hown (below_one (.cells #[.int .i64 wh, .int .i64 r.i, .int .i64 r.n, .int .i64 r.st, .int .i64 r.br, .int .i64 r.bb, .int .i64 r.tr, .int .i64 r.tb, .int .i64 r.k, .int .i64 r.c, .int .i64 r.q, .string r.y, .string r.x, .int .i64 r.r, .slice r.A r.m r.cap, .int .i64 r.sq, .int .i64 r.tg] 40))) _ _ _ _ rfl (src_seen ⟨wh, r⟩) ?h63 ?hby ?hbase ?_); (case h63 => (unfold maxLen; first | omega | (simp; done) | (simp; omega))); (case hby => first | omega | (simp; done) | (simp; omega)); (case hbase => first | omega | (simp; done) | (simp; omega)); intro v9 w9 hownw9 hgroww9 hatw9 holdw9)))
          obtain ⟨A8, c8, rfl, _, _⟩ := own_form8 hownw9
          go_roundw
          case rel => exact ⟨j + 1, A8, c8, by omega, rfl, by go_num, (P.keep (below_one _)).app HI.out (by omega) (own_keep8 hown (below_one _)) hgroww9, by rw [lst, flatS_snoc, Eent.out]; exact hownw9⟩
          case measure => simp [intOf]; omega
        · have Eent : Hid (ent j = ⟨wh, u⟩) := Lib.hid (by rw [Hent.out]; simp only; rw [← hwh, ← hpk2, if_neg hin])
          clear hpk2 hwh
          go_wp2_with (first | (go_at_call 12; refine (hqu _).mono ?_; rintro e w2 ⟨rfl, rfl⟩) | (go_at_call 15; (with_reducible refine (hpk _).mono ?_); rintro e w' ⟨rfl, hb'⟩; have Pn := P.keep hb'; have On := own_keep8 hown hb'; clear P hown lr lu ibc cbc obc abc hb'; have P := Pn; have hown := On; clear Pn On; have lr := rec_load P.rb; have lu := rec_load P.ub; have ibc := P.ib.cell; have cbc := P.cb.cell; have obc := P.ob.cell; have abc := P.ab.cell; have hzu2 := P.ub.lt) | ((at_builtin; go_loud (refine wpList_app _ rfl (.tmp 110) (.tmp 114) 37 rfl _ 40 i0 _ 17 168 Tryd.underlying37 hi hz0 hzz hz2 rfl (by omega) _ _ _ rfl (own_keep8 hown (below_one (.cells #[.int .i64 wh, .int .i64 u.i, .int .i64 u.n, .int .i64 u.st, .int .i64 u.br, .int .i64 u.bb, .int .i64 u.tr, .int .i64 u.tb, .int .i64 u.k, .int .i64 u.c, .int .i64 u.q, .string u.y, .string u.x, .int .i64 u.r, .slice u.A u.m u.cap, .int .i64 u.sq, .int .i64 u.tg] 40))) _ _ _ _ rfl (src_seen ⟨wh, u⟩) ?h63 ?hby ?hbase ?_); (case h63 => (unfold maxLen; first | omega | (simp; done) | (simp; omega))); (case hby => first | omega | (simp; done) | (simp; omega)); (case hbase => first | omega | (simp; done) | (simp; omega)); intro v9 w9 hownw9 hgroww9 hatw9 holdw9)))
          obtain ⟨A8, c8, rfl, _, _⟩ := own_form8 hownw9
          go_roundw
          case rel => exact ⟨j + 1, A8, c8, by omega, rfl, by go_num, (P.keep (below_one _)).app HI.out (by omega) (own_keep8 hown (below_one _)) hgroww9, by rw [lst, flatS_snoc, Eent.out]; exact hownw9⟩
          case measure => simp [intOf]; omega
      · obtain rfl : j = Qn := by omega
        have hS : SeensAt wr A9 j (lst ent j) := seens_own hown (lst_length _ _).symm (by unfold maxLen; omega) (fun s hs => by
          obtain ⟨k, hk, rfl⟩ := mem_lst.1 hs
          rw [Hent.out]
          simp only
          split
          · exact ROk.out _ P.ids
          · exact UOk.out _ P.ids)
        have hgood : Good N ir inn (lst ent j) := ⟨fun s hs => by
            obtain ⟨k, hk, rfl⟩ := mem_lst.1 hs
            rw [Hent.out]
            exact Int.emod_nonneg _ (by omega),
          fun s hs => by
            obtain ⟨k, hk, rfl⟩ := mem_lst.1 hs
            rw [Hent.out]
            exact Int.emod_lt_of_pos _ (by omega),
          fun s hs => by
            obtain ⟨k, hk, rfl⟩ := mem_lst.1 hs
            rw [Hent.out]
            simp only
            split
            · rw [Hr.out]; exact peq_iff.2 ⟨rfl, rfl⟩
            · rw [Hu.out]; exact peq_iff.2 ⟨rfl, rfl⟩,
          fun s hs => by
            obtain ⟨k, hk, rfl⟩ := mem_lst.1 hs
            rw [Hent.out]
            simp only
            split
            · exact x1
            · exact x2,
          nodup_lst fun a b ha hb e => by
            rw [Hent.out] at e
            exact whose hN3 hQ2 ha hb e⟩
        have hfound : decD ir (lst ent j) (ent 0).r = (2, r) := found (r := r) (u := u)
          (fun k hk => by rw [Hent.out]; simp only; split; exact .inl rfl; exact .inr rfl)
          (by obtain ⟨k, hk, hp⟩ := window (a := se) (b := fi) hN3 hQ2; exact ⟨k, hk, by rw [Hent.out]; simp only; rw [if_pos hp]⟩)
          (by rw [Hr.out]) hust (by rw [Hr.out, Hu.out]; exact lessB_iff.2 (.inl (by show er < 2 + rd; omega)))
          (by rw [Hr.out, Hu.out, ← Bool.not_eq_true, lessB_iff]; show ¬ (2 + rd < er ∨ 2 + rd = er ∧ _); omega)
          (by rw [← Bool.not_eq_true, lessB_iff]; omega) _ _
        have hde := fun W (hP : RS w ir inn c o A m cap q t l r u W5.heap.size W) (hs : SeensAt W A9 j (lst ent j)) => decide_any N ir inn A9 j c9 (lst ent j) (ent 0) W hs (lst_zero (by omega)) hgood (HT.out.keep hP.hb) (by omega) (by omega) (by omega) (by rw [HQ.out]; omega)
        rw [hfound] at hde
        simp only at hde
        rw [show decF 2 r = .agg #[.int .i64 2, .int .i64 c.kind, .int .i64 c.client, .int .i64 c.seq, .string c.key, .string c.val, .int .i64 c.rev, .slice A m cap, .int .i64 q, .int .i64 t] from by rw [Hr.out]; rfl] at hde
        have hsm := fun W (h : IdsAt W A m l) => attrsame_any A A m cap m cap q t q t l l W h h
        rw [show asame ⟨l, q, t⟩ ⟨l, q, t⟩ = true from asame_iff.2 rfl] at hsm
        have hce : ceq c.kind c.client c.seq c.key c.val c.rev c.kind c.client c.seq c.key c.val c.rev = true := by simp [ceq]
        have Hde := Lib.hid hde
        have HS := Lib.hid hS
        clear hde hS hgood hfound hown
        go_wp2_with (first | (go_at_call 12; refine (hqu _).mono ?_; rintro e w2 ⟨rfl, rfl⟩) | (go_at_call 13; (with_reducible refine (Hde.out _ P HS.out).mono ?_); rintro e w' ⟨rfl, hb'⟩; have Pn := (P.keep hb').keep (below_one (.cells #[.int .i64 2, .int .i64 c.kind, .int .i64 c.client, .int .i64 c.seq, .string c.key, .string c.val, .int .i64 c.rev, .slice A m cap, .int .i64 q, .int .i64 t] 42)); have Db := Blk.new w' 42 #[.int .i64 2, .int .i64 c.kind, .int .i64 c.client, .int .i64 c.seq, .string c.key, .string c.val, .int .i64 c.rev, .slice A m cap, .int .i64 q, .int .i64 t]; clear P lr lu ibc cbc obc abc hb' HS; have P := Pn; clear Pn; have Dc := Db.cell; have cbc := P.cb.cell; have abc := P.ab.cell; have lr := True.intro) | (go_at_call 14; (with_reducible refine (hsm _ P.ids).mono ?_); rintro e w' ⟨rfl, hb'⟩; have Pn := P.keep hb'; clear P Dc Db cbc abc hb'; have P := Pn; clear Pn) | (go_at_call 11; (with_reducible refine (AW.out _ P).mono ?_); rintro e w' ⟨rfl, hb'⟩; have Pn := P.keep hb'; clear P hb'; have P := Pn; clear Pn))
        go_ret
        exact ⟨rfl, P.hb⟩
  · go_upto_region 9 with fail
    have P : RS w ir inn c o A m cap q t l r u W5.heap.size ((W5.alloc (.cells #[.int .i64 ir, .int .i64 inn, .int .i64 2, .int .i64 300, .int .i64 0, .int .i64 (2 + rd), .int .i64 1, .int .i64 c.kind, .int .i64 c.client, .int .i64 c.seq, .string c.key, .string c.val, .int .i64 c.rev, .slice A m cap, .int .i64 q, .int .i64 t] 33)).alloc (.cells #[.int .i64 ir, .int .i64 inn, .int .i64 2, .int .i64 300, .int .i64 0, .int .i64 er, .int .i64 0, .int .i64 o.kind, .int .i64 o.client, .int .i64 o.seq, .string o.key, .string o.val, .int .i64 o.rev, .slice A m cap, .int .i64 q, .int .i64 t] 33)) :=
      ⟨below_call k5 kW2 k5.size, ib.keep kW2, cb.keep kW2, ob.keep kW2, ab.keep kW2, by rw [Hr.out]; exact (Blk.new _ _ _).alloc _, by rw [Hu.out, if_neg z3]; exact Blk.newAt (by simp), HI.out.keep (below_call k5 kW2 k5.size)⟩
    have hust : u.st = 1 ∨ u.st = 2 := by rw [Hu.out, if_neg z3]; exact .inr rfl
    revert P
    generalize World.alloc _ _ = W8 at *
    intro P
    have lr := rec_load P.rb
    have lu := rec_load P.ub
    have ibc := P.ib.cell
    have cbc := P.cb.cell
    have obc := P.ob.cell
    have abc := P.ab.cell
    clear kW kW2 ib cb ob ab
    by_cases g1 : 40 < m
    · have g1' : (40 : Int) < (m : Int) := by omega
      go_wp2_with (first | (go_at_call 10; (with_reducible refine (ckr _ P).mono ?_); rintro e w' ⟨rfl, hb'⟩; have Pn := P.keep hb'; clear P lr lu ibc cbc obc abc hb'; have P := Pn; clear Pn; have lr := rec_load P.rb; have lu := rec_load P.ub; have ibc := P.ib.cell; have cbc := P.cb.cell; have obc := P.ob.cell; have abc := P.ab.cell) | (go_at_call 10; (with_reducible refine (cku _ P).mono ?_); rintro e w' ⟨rfl, hb'⟩; have Pn := P.keep hb'; clear P lr lu ibc cbc obc abc hb'; have P := Pn; clear Pn; have lr := rec_load P.rb; have lu := rec_load P.ub; have ibc := P.ib.cell; have cbc := P.cb.cell; have obc := P.ob.cell; have abc := P.ab.cell) | (go_at_call 11; (with_reducible refine (AW.out _ P).mono ?_); rintro e w' ⟨rfl, hb'⟩; have Pn := P.keep hb'; clear P lr lu ibc cbc obc abc hb'; have P := Pn; clear Pn; have lr := rec_load P.rb; have lu := rec_load P.ub; have ibc := P.ib.cell; have cbc := P.cb.cell; have obc := P.ob.cell; have abc := P.ab.cell))
      go_ret
      exact ⟨rfl, P.hb⟩
    have g1' : ¬ (40 : Int) < (m : Int) := by omega
    by_cases g2 : 200 < c.key.size
    · have g2' : (200 : Int) < (c.key.size : Int) := by omega
      go_wp2_with (first | (go_at_call 10; (with_reducible refine (ckr _ P).mono ?_); rintro e w' ⟨rfl, hb'⟩; have Pn := P.keep hb'; clear P lr lu ibc cbc obc abc hb'; have P := Pn; clear Pn; have lr := rec_load P.rb; have lu := rec_load P.ub; have ibc := P.ib.cell; have cbc := P.cb.cell; have obc := P.ob.cell; have abc := P.ab.cell) | (go_at_call 10; (with_reducible refine (cku _ P).mono ?_); rintro e w' ⟨rfl, hb'⟩; have Pn := P.keep hb'; clear P lr lu ibc cbc obc abc hb'; have P := Pn; clear Pn; have lr := rec_load P.rb; have lu := rec_load P.ub; have ibc := P.ib.cell; have cbc := P.cb.cell; have obc := P.ob.cell; have abc := P.ab.cell) | (go_at_call 11; (with_reducible refine (AW.out _ P).mono ?_); rintro e w' ⟨rfl, hb'⟩; have Pn := P.keep hb'; clear P lr lu ibc cbc obc abc hb'; have P := Pn; clear Pn; have lr := rec_load P.rb; have lu := rec_load P.ub; have ibc := P.ib.cell; have cbc := P.cb.cell; have obc := P.ob.cell; have abc := P.ab.cell))
      go_ret
      exact ⟨rfl, P.hb⟩
    have g2' : ¬ (200 : Int) < (c.key.size : Int) := by omega
    by_cases g3 : 200 < o.key.size
    · have g3' : (200 : Int) < (o.key.size : Int) := by omega
      go_wp2_with (first | (go_at_call 10; (with_reducible refine (ckr _ P).mono ?_); rintro e w' ⟨rfl, hb'⟩; have Pn := P.keep hb'; clear P lr lu ibc cbc obc abc hb'; have P := Pn; clear Pn; have lr := rec_load P.rb; have lu := rec_load P.ub; have ibc := P.ib.cell; have cbc := P.cb.cell; have obc := P.ob.cell; have abc := P.ab.cell) | (go_at_call 10; (with_reducible refine (cku _ P).mono ?_); rintro e w' ⟨rfl, hb'⟩; have Pn := P.keep hb'; clear P lr lu ibc cbc obc abc hb'; have P := Pn; clear Pn; have lr := rec_load P.rb; have lu := rec_load P.ub; have ibc := P.ib.cell; have cbc := P.cb.cell; have obc := P.ob.cell; have abc := P.ab.cell) | (go_at_call 11; (with_reducible refine (AW.out _ P).mono ?_); rintro e w' ⟨rfl, hb'⟩; have Pn := P.keep hb'; clear P lr lu ibc cbc obc abc hb'; have P := Pn; clear Pn; have lr := rec_load P.rb; have lu := rec_load P.ub; have ibc := P.ib.cell; have cbc := P.cb.cell; have obc := P.ob.cell; have abc := P.ab.cell))
      go_ret
      exact ⟨rfl, P.hb⟩
    have g3' : ¬ (200 : Int) < (o.key.size : Int) := by omega
    cases x1 : recOk r
    · rw [x1] at ckr
      simp only [recErr] at ckr
      go_wp2_with (first | (go_at_call 10; (with_reducible refine (ckr _ P).mono ?_); rintro e w' ⟨rfl, hb'⟩; have Pn := P.keep hb'; clear P lr lu ibc cbc obc abc hb'; have P := Pn; clear Pn; have lr := rec_load P.rb; have lu := rec_load P.ub; have ibc := P.ib.cell; have cbc := P.cb.cell; have obc := P.ob.cell; have abc := P.ab.cell) | (go_at_call 10; (with_reducible refine (cku _ P).mono ?_); rintro e w' ⟨rfl, hb'⟩; have Pn := P.keep hb'; clear P lr lu ibc cbc obc abc hb'; have P := Pn; clear Pn; have lr := rec_load P.rb; have lu := rec_load P.ub; have ibc := P.ib.cell; have cbc := P.cb.cell; have obc := P.ob.cell; have abc := P.ab.cell) | (go_at_call 11; (with_reducible refine (AW.out _ P).mono ?_); rintro e w' ⟨rfl, hb'⟩; have Pn := P.keep hb'; clear P lr lu ibc cbc obc abc hb'; have P := Pn; clear Pn; have lr := rec_load P.rb; have lu := rec_load P.ub; have ibc := P.ib.cell; have cbc := P.cb.cell; have obc := P.ob.cell; have abc := P.ab.cell))
      go_ret
      exact ⟨rfl, P.hb⟩
    cases x2 : recOk u
    · rw [x1] at ckr
      rw [x2] at cku
      simp only [recErr] at ckr cku
      go_wp2_with (first | (go_at_call 10; (with_reducible refine (ckr _ P).mono ?_); rintro e w' ⟨rfl, hb'⟩; have Pn := P.keep hb'; clear P lr lu ibc cbc obc abc hb'; have P := Pn; clear Pn; have lr := rec_load P.rb; have lu := rec_load P.ub; have ibc := P.ib.cell; have cbc := P.cb.cell; have obc := P.ob.cell; have abc := P.ab.cell) | (go_at_call 10; (with_reducible refine (cku _ P).mono ?_); rintro e w' ⟨rfl, hb'⟩; have Pn := P.keep hb'; clear P lr lu ibc cbc obc abc hb'; have P := Pn; clear Pn; have lr := rec_load P.rb; have lu := rec_load P.ub; have ibc := P.ib.cell; have cbc := P.cb.cell; have obc := P.ob.cell; have abc := P.ab.cell) | (go_at_call 11; (with_reducible refine (AW.out _ P).mono ?_); rintro e w' ⟨rfl, hb'⟩; have Pn := P.keep hb'; clear P lr lu ibc cbc obc abc hb'; have P := Pn; clear Pn; have lr := rec_load P.rb; have lu := rec_load P.ub; have ibc := P.ib.cell; have cbc := P.cb.cell; have obc := P.ob.cell; have abc := P.ab.cell))
      go_ret
      exact ⟨rfl, P.hb⟩
    rw [x1] at ckr
    rw [x2] at cku
    simp only [recErr] at ckr cku
    go_upto_region 13 with (first | (go_at_call 10; (with_reducible refine (ckr _ P).mono ?_); rintro e w' ⟨rfl, hb'⟩; have Pn := P.keep hb'; clear P lr lu ibc cbc obc abc hb'; have P := Pn; clear Pn; have lr := rec_load P.rb; have lu := rec_load P.ub; have ibc := P.ib.cell; have cbc := P.cb.cell; have obc := P.ob.cell; have abc := P.ab.cell) | (go_at_call 10; (with_reducible refine (cku _ P).mono ?_); rintro e w' ⟨rfl, hb'⟩; have Pn := P.keep hb'; clear P lr lu ibc cbc obc abc hb'; have P := Pn; clear Pn; have lr := rec_load P.rb; have lu := rec_load P.ub; have ibc := P.ib.cell; have cbc := P.cb.cell; have obc := P.ob.cell; have abc := P.ab.cell) | (go_at_call 11; (with_reducible refine (AW.out _ P).mono ?_); rintro e w' ⟨rfl, hb'⟩; have Pn := P.keep hb'; clear P lr lu ibc cbc obc abc hb'; have P := Pn; clear Pn; have lr := rec_load P.rb; have lu := rec_load P.ub; have ibc := P.ib.cell; have cbc := P.cb.cell; have obc := P.ob.cell; have abc := P.ab.cell))
    have hNN : 3 ≤ N ∧ N ≤ 7 := by omega
    obtain ⟨Qn, hQ, hQ2⟩ : ∃ Qn : Nat, quo (N : Int) = (Qn : Int) ∧ 2 * Qn = N + 1 := by
      clear lr lu P
      rcases hN3 with h | h | h <;> subst h
      · exact ⟨2, rfl, rfl⟩
      · exact ⟨3, rfl, rfl⟩
      · exact ⟨4, rfl, rfl⟩
    have hqu := fun W => quorum_any (N : Int) W (by omega) (by omega)
    rw [hQ] at hqu
    obtain ⟨ent, hent⟩ : ∃ ent : Nat → SeenT, ent = fun j => ⟨((j : Int) + se) % N, if pickV (((j : Int) + se) % N - fi) N < Qn then r else u⟩ := ⟨_, rfl⟩
    have Hent := Lib.hid hent
    have HQ := Lib.hid hQ
    clear hent hQ
    obtain ⟨i0, hi, hz0, hzz, hz2⟩ := seeninfo
    have hw9 : IntKind.i64.wrap se = se := IntWalk.i64_in _ (by omega)
    have hw10 : IntKind.i64.wrap fi = fi := IntWalk.i64_in _ (by omega)
    have hN0 : ((N : Int) == 0) = false := by simp; omega
    have hN0' : ((N : Int) = 0) = False := by simp; omega
    clear ckr cku
    go_loopw [23, 24] (fun s23 s24 wr => ∃ (j : Nat) (A9 : Option Addr) (c9 : Nat), j ≤ Qn ∧ s23 = .slice A9 j c9 ∧ s24 = .int .i64 j ∧ RS w ir inn c o A m cap q t l r u W5.heap.size wr ∧ wr.ownsRow (W5.heap.size + 2) 40 17 (.slice A9 j c9) j (flatS (lst ent j))) (fun _ s24 _ => Qn - (intOf s24).toNat)
    case atStart => exact ⟨0, none, 0, by omega, rfl, rfl, P, World.ownsRow_nil _ _ _ _⟩
    case round =>
      clear P lr lu ibc cbc obc abc
      obtain ⟨j, A9, c9, hj, rfl, rfl, P, hown⟩ := hrel
      have hzu := P.ub.lt
      have lr := rec_load P.rb
      have lu := rec_load P.ub
      have ibc := P.ib.cell
      have cbc := P.cb.cell
      have obc := P.ob.cell
      have abc := P.ab.cell
      by_cases hlt : j < Qn
      · have j1 : (j : Int) < (Qn : Int) := by omega
        obtain ⟨wh, hwh⟩ : ∃ wh, wh = ((j : Int) + se) % N := ⟨_, rfl⟩
        have v0 : 0 ≤ wh := by rw [hwh]; exact Int.emod_nonneg _ (by omega)
        have v1 : wh < N := by rw [hwh]; exact Int.emod_lt_of_pos _ (by omega)
        have hwr : IntKind.i64.wrap ((j : Int) + se) = (j : Int) + se := IntWalk.i64_in _ (by omega)
        have hrem5 : ((j : Int) + se).tmod N = wh := by rw [hwh]; exact Int.tmod_eq_emod_of_nonneg (by omega)
        have hwr2 : IntKind.i64.wrap wh = wh := IntWalk.i64_in _ (by omega)
        have hwr3 : IntKind.i64.wrap (wh - fi) = wh - fi := IntWalk.i64_in _ (by omega)
        have hpk := fun W => pick_any (wh - fi) N W (by omega) (by omega) (by simp [Lit.wf, IntKind.min, IntKind.max, IntKind.bits, IntKind.signed]; omega)
        obtain ⟨pk, hpk2⟩ : ∃ pk, pk = pickV (wh - fi) N := ⟨_, rfl⟩
        rw [← hpk2] at hpk
        by_cases hin : pk < Qn
        · have Eent : Hid (ent j = ⟨wh, r⟩) := Lib.hid (by rw [Hent.out]; simp only; rw [← hwh, ← hpk2, if_pos hin])
          clear hpk2 hwh
          go_wp2_with (first | (go_at_call 12; refine (hqu _).mono ?_; rintro e w2 ⟨rfl, rfl⟩) | (go_at_call 15; (with_reducible refine (hpk _).mono ?_); rintro e w' ⟨rfl, hb'⟩; have Pn := P.keep hb'; have On := own_keep8 hown hb'; clear P hown lr lu ibc cbc obc abc hb'; have P := Pn; have hown := On; clear Pn On; have lr := rec_load P.rb; have lu := rec_load P.ub; have ibc := P.ib.cell; have cbc := P.cb.cell; have obc := P.ob.cell; have abc := P.ab.cell; have hzu2 := P.ub.lt) | ((at_builtin; go_loud (refine wpList_app _ rfl (.tmp 104) (.tmp 108) 37 rfl _ 40 i0 _ 17 168 Tryd.underlying37 hi hz0 hzz hz2 rfl (by omega) _ _ _ rfl (own_keep8 hown (below_one (.cells #[.int .i64 wh, .int .i64 r.i, .int .i64 r.n, .int .i64 r.st, .int .i64 r.br, .int .i64 r.bb, .int .i64 r.tr, .int .i64 r.tb, .int .i64 r.k, .int .i64 r.c, .int .i64 r.q, .string r.y, .string r.x, .int .i64 r.r, .slice r.A r.m r.cap, .int .i64 r.sq, .int .i64 r.tg] 40))) _ _ _ _ rfl (src_seen ⟨wh, r⟩) ?h63 ?hby ?hbase ?_); (case h63 => (unfold maxLen; first | omega | (simp; done) | (simp; omega))); (case hby => first | omega | (simp; done) | (simp; omega)); (case hbase => first | omega | (simp; done) | (simp; omega)); intro v9 w9 hownw9 hgroww9 hatw9 holdw9)))
          obtain ⟨A8, c8, rfl, _, _⟩ := own_form8 hownw9
          go_roundw
          case rel => exact ⟨j + 1, A8, c8, by omega, rfl, by go_num, (P.keep (below_one _)).app HI.out (by omega) (own_keep8 hown (below_one _)) hgroww9, by rw [lst, flatS_snoc, Eent.out]; exact hownw9⟩
          case measure => simp [intOf]; omega
        · have Eent : Hid (ent j = ⟨wh, u⟩) := Lib.hid (by rw [Hent.out]; simp only; rw [← hwh, ← hpk2, if_neg hin])
          clear hpk2 hwh
          go_wp2_with (first | (go_at_call 12; refine (hqu _).mono ?_; rintro e w2 ⟨rfl, rfl⟩) | (go_at_call 15; (with_reducible refine (hpk _).mono ?_); rintro e w' ⟨rfl, hb'⟩; have Pn := P.keep hb'; have On := own_keep8 hown hb'; clear P hown lr lu ibc cbc obc abc hb'; have P := Pn; have hown := On; clear Pn On; have lr := rec_load P.rb; have lu := rec_load P.ub; have ibc := P.ib.cell; have cbc := P.cb.cell; have obc := P.ob.cell; have abc := P.ab.cell; have hzu2 := P.ub.lt) | ((at_builtin; go_loud (refine wpList_app _ rfl (.tmp 110) (.tmp 114) 37 rfl _ 40 i0 _ 17 168 Tryd.underlying37 hi hz0 hzz hz2 rfl (by omega) _ _ _ rfl (own_keep8 hown (below_one (.cells #[.int .i64 wh, .int .i64 u.i, .int .i64 u.n, .int .i64 u.st, .int .i64 u.br, .int .i64 u.bb, .int .i64 u.tr, .int .i64 u.tb, .int .i64 u.k, .int .i64 u.c, .int .i64 u.q, .string u.y, .string u.x, .int .i64 u.r, .slice u.A u.m u.cap, .int .i64 u.sq, .int .i64 u.tg] 40))) _ _ _ _ rfl (src_seen ⟨wh, u⟩) ?h63 ?hby ?hbase ?_); (case h63 => (unfold maxLen; first | omega | (simp; done) | (simp; omega))); (case hby => first | omega | (simp; done) | (simp; omega)); (case hbase => first | omega | (simp; done) | (simp; omega)); intro v9 w9 hownw9 hgroww9 hatw9 holdw9)))
          obtain ⟨A8, c8, rfl, _, _⟩ := own_form8 hownw9
          go_roundw
          case rel => exact ⟨j + 1, A8, c8, by omega, rfl, by go_num, (P.keep (below_one _)).app HI.out (by omega) (own_keep8 hown (below_one _)) hgroww9, by rw [lst, flatS_snoc, Eent.out]; exact hownw9⟩
          case measure => simp [intOf]; omega
      · obtain rfl : j = Qn := by omega
        have hS : SeensAt wr A9 j (lst ent j) := seens_own hown (lst_length _ _).symm (by unfold maxLen; omega) (fun s hs => by
          obtain ⟨k, hk, rfl⟩ := mem_lst.1 hs
          rw [Hent.out]
          simp only
          split
          · exact ROk.out _ P.ids
          · exact UOk.out _ P.ids)
        have hgood : Good N ir inn (lst ent j) := ⟨fun s hs => by
            obtain ⟨k, hk, rfl⟩ := mem_lst.1 hs
            rw [Hent.out]
            exact Int.emod_nonneg _ (by omega),
          fun s hs => by
            obtain ⟨k, hk, rfl⟩ := mem_lst.1 hs
            rw [Hent.out]
            exact Int.emod_lt_of_pos _ (by omega),
          fun s hs => by
            obtain ⟨k, hk, rfl⟩ := mem_lst.1 hs
            rw [Hent.out]
            simp only
            split
            · rw [Hr.out]; exact peq_iff.2 ⟨rfl, rfl⟩
            · rw [Hu.out]; exact peq_iff.2 ⟨rfl, rfl⟩,
          fun s hs => by
            obtain ⟨k, hk, rfl⟩ := mem_lst.1 hs
            rw [Hent.out]
            simp only
            split
            · exact x1
            · exact x2,
          nodup_lst fun a b ha hb e => by
            rw [Hent.out] at e
            exact whose hN3 hQ2 ha hb e⟩
        have hfound : decD ir (lst ent j) (ent 0).r = (2, r) := found (r := r) (u := u)
          (fun k hk => by rw [Hent.out]; simp only; split; exact .inl rfl; exact .inr rfl)
          (by obtain ⟨k, hk, hp⟩ := window (a := se) (b := fi) hN3 hQ2; exact ⟨k, hk, by rw [Hent.out]; simp only; rw [if_pos hp]⟩)
          (by rw [Hr.out]) hust (by rw [Hr.out, Hu.out]; exact lessB_iff.2 (.inl (by show er < 2 + rd; omega)))
          (by rw [Hr.out, Hu.out, ← Bool.not_eq_true, lessB_iff]; show ¬ (2 + rd < er ∨ 2 + rd = er ∧ _); omega)
          (by rw [← Bool.not_eq_true, lessB_iff]; omega) _ _
        have hde := fun W (hP : RS w ir inn c o A m cap q t l r u W5.heap.size W) (hs : SeensAt W A9 j (lst ent j)) => decide_any N ir inn A9 j c9 (lst ent j) (ent 0) W hs (lst_zero (by omega)) hgood (HT.out.keep hP.hb) (by omega) (by omega) (by omega) (by rw [HQ.out]; omega)
        rw [hfound] at hde
        simp only at hde
        rw [show decF 2 r = .agg #[.int .i64 2, .int .i64 c.kind, .int .i64 c.client, .int .i64 c.seq, .string c.key, .string c.val, .int .i64 c.rev, .slice A m cap, .int .i64 q, .int .i64 t] from by rw [Hr.out]; rfl] at hde
        have hsm := fun W (h : IdsAt W A m l) => attrsame_any A A m cap m cap q t q t l l W h h
        rw [show asame ⟨l, q, t⟩ ⟨l, q, t⟩ = true from asame_iff.2 rfl] at hsm
        have hce : ceq c.kind c.client c.seq c.key c.val c.rev c.kind c.client c.seq c.key c.val c.rev = true := by simp [ceq]
        have Hde := Lib.hid hde
        have HS := Lib.hid hS
        clear hde hS hgood hfound hown
        go_wp2_with (first | (go_at_call 12; refine (hqu _).mono ?_; rintro e w2 ⟨rfl, rfl⟩) | (go_at_call 13; (with_reducible refine (Hde.out _ P HS.out).mono ?_); rintro e w' ⟨rfl, hb'⟩; have Pn := (P.keep hb').keep (below_one (.cells #[.int .i64 2, .int .i64 c.kind, .int .i64 c.client, .int .i64 c.seq, .string c.key, .string c.val, .int .i64 c.rev, .slice A m cap, .int .i64 q, .int .i64 t] 42)); have Db := Blk.new w' 42 #[.int .i64 2, .int .i64 c.kind, .int .i64 c.client, .int .i64 c.seq, .string c.key, .string c.val, .int .i64 c.rev, .slice A m cap, .int .i64 q, .int .i64 t]; clear P lr lu ibc cbc obc abc hb' HS; have P := Pn; clear Pn; have Dc := Db.cell; have cbc := P.cb.cell; have abc := P.ab.cell; have lr := True.intro) | (go_at_call 14; (with_reducible refine (hsm _ P.ids).mono ?_); rintro e w' ⟨rfl, hb'⟩; have Pn := P.keep hb'; clear P Dc Db cbc abc hb'; have P := Pn; clear Pn) | (go_at_call 11; (with_reducible refine (AW.out _ P).mono ?_); rintro e w' ⟨rfl, hb'⟩; have Pn := P.keep hb'; clear P hb'; have P := Pn; clear Pn))
        go_ret
        exact ⟨rfl, P.hb⟩
end Go.Proofs.YtmgiholmhhjpaaaDoor
