/- The walk of the law RescueNone. -/
import Derived.Test.YtmgiholmhhjpaaaDoorRescueNoneQ0
import Derived.Test.YtmgiholmhhjpaaaDoorRescueAcceptedQ6
import Derived.Test.YtmgiholmhhjpaaaDoorRecChecksQ8
import Derived.WalkKit
import Derived.WalkSpells
import Derived.WalkLawsBesides
import Derived.Deep.RegionHeld3
import Derived.Deep.DrawnRows
import Derived.Deep.DeepCutAuto
import Derived.Deep.DeepFit
import Derived.Lib.Hide
import Derived.BigQuiet
import Derived.Deep.QuietTactic
namespace Go.Proofs.YtmgiholmhhjpaaaDoor
open Go.RowKit
set_option linter.unusedVariables false
set_option linter.unusedSimpArgs false
set_option maxRecDepth 20000
attribute [local go_sem ↓] Go.wp_at_zero Go.wp_at_succ
attribute [local go_sem] World.cell?_alloc_some frozen_alloc_some
attribute [local go_sem ↓ high] loadVar_rec storeVar_rec loadVar_seen storeVar_seen loadVar_dec storeVar_dec cmd_eql_run cmd_neq_run dec_fld0
attribute [local go_sem] rec_store_new seen_store_new dec_store_new

theorem lst_get {ent : Nat → SeenT} {k j : Nat} (h : j < k) : (lst ent k)[j]? = some (ent j) := by
  induction k with
  | zero => omega
  | succ k ih =>
    rw [lst]
    rcases Nat.lt_or_ge j k with h' | h'
    · rw [List.getElem?_append_left (by rw [lst_length]; exact h')]; exact ih h'
    · obtain rfl : j = k := by omega
      rw [List.getElem?_append_right (by rw [lst_length]; exact Nat.le_refl _), lst_length, Nat.sub_self]; rfl
theorem lst_set (ent : Nat → SeenT) (jj : Nat) (x : SeenT) (j : Nat) : (lst ent j).set jj x = lst (fun k => if k = jj then x else ent k) j := by
  induction j with
  | zero => rfl
  | succ j ih =>
    rw [lst, lst, List.set_append, lst_length]
    split
    · rename_i h
      rw [ih, if_neg (by omega)]
    · rename_i h
      have e1 : (lst ent j).set jj x = lst ent j := List.set_eq_of_length_le (by rw [lst_length]; omega)
      rw [← ih, e1]
      by_cases hj : j = jj
      · subst hj
        rw [Nat.sub_self, if_pos rfl]; rfl
      · rw [if_neg hj]
        congr 1
        exact List.set_eq_of_length_le (by simp; omega)
abbrev S5 (g1 g2 g3 g4 g5 : Nat) (c1 c2 c3 c4 c5 : Array Value) (wx : World) : Prop := (∀ i, wx.cell? ⟨g1, i, none⟩ = c1[i]?) ∧ (∀ i, wx.cell? ⟨g2, i, none⟩ = c2[i]?) ∧ (∀ i, wx.cell? ⟨g3, i, none⟩ = c3[i]?) ∧ (∀ i, wx.cell? ⟨g4, i, none⟩ = c4[i]?) ∧ (∀ i, wx.cell? ⟨g5, i, none⟩ = c5[i]?)
theorem Good.tail {n ir inn : Int} {s : SeenT} {ss : List SeenT} (h : Good n ir inn (s :: ss)) : Good n ir inn ss :=
  ⟨fun x hx => h.f0 x (List.mem_cons_of_mem _ hx), fun x hx => h.f1 x (List.mem_cons_of_mem _ hx), fun x hx => h.id x (List.mem_cons_of_mem _ hx), fun x hx => h.ok x (List.mem_cons_of_mem _ hx), (List.nodup_cons.1 h.nd).2⟩
structure RN (w : World) (ir inn : Int) (c : CmdT) (A : Option Addr) (m cap : Nat) (q t : Int) (l : List IdP) (r : RecT) (gb gr : Nat) (W : World) : Prop where
  hb : Below w.heap.size w W
  ib : Blk W w.heap.size 28 #[.int .i64 ir, .int .i64 inn]
  cb : Blk W (w.heap.size + 1) 23 #[.int .i64 c.kind, .int .i64 c.client, .int .i64 c.seq, .string c.key, .string c.val, .int .i64 c.rev]
  ab : Blk W (w.heap.size + 1 + 1) 26 #[.slice A m cap, .int .i64 q, .int .i64 t]
  bb : Blk W gb 30 #[.int .i64 2, .int .i64 1]
  rb : Blk W gr 33 #[.int .i64 r.i, .int .i64 r.n, .int .i64 r.st, .int .i64 r.br, .int .i64 r.bb, .int .i64 r.tr, .int .i64 r.tb, .int .i64 r.k, .int .i64 r.c, .int .i64 r.q, .string r.y, .string r.x, .int .i64 r.r, .slice r.A r.m r.cap, .int .i64 r.sq, .int .i64 r.tg]
  ids : IdsAt W A m l
section
variable {w W W' : World} {ir inn : Int} {c : CmdT} {A : Option Addr} {m cap : Nat} {q t : Int} {l : List IdP} {r : RecT} {gb gr : Nat}
theorem RN.keep (h : RN w ir inn c A m cap q t l r gb gr W) (hb : Below W.heap.size W W') : RN w ir inn c A m cap q t l r gb gr W' :=
  ⟨below_call h.hb hb h.hb.size, h.ib.keep hb, h.cb.keep hb, h.ab.keep hb, h.bb.keep hb, h.rb.keep hb, h.ids.keep hb⟩
theorem RN.app (h : RN w ir inn c A m cap q t l r gb gr W) (hI : IdsAt w A m l) (hs : w.heap.size + 3 ≤ gb) (hs2 : gb < gr) {e : TypeId} {size : Nat} {v : Value} {n : Nat} {xs : List Value} (ho : W.ownsRow (gr + 1) e size v n xs) (hg : W.grownBy W' v.ownBlock) : RN w ir inn c A m cap q t l r gb gr W' :=
  have far : ∀ k, k < gr + 1 → some k ≠ v.ownBlock := fun k hk e => by have := (ho.lt _ e.symm).1; omega
  have hb : Below w.heap.size w W' := below_app h.hb ho hg (by omega) h.hb.size
  ⟨hb, (hg.block _ h.ib.lt (far _ (by omega))).trans h.ib, (hg.block _ h.cb.lt (far _ (by omega))).trans h.cb, (hg.block _ h.ab.lt (far _ (by omega))).trans h.ab, (hg.block _ h.bb.lt (far _ (by omega))).trans h.bb, (hg.block _ h.rb.lt (far _ (by omega))).trans h.rb, hI.keep hb⟩
theorem RN.put (h : RN w ir inn c A m cap q t l r gb gr W) (hI : IdsAt w A m l) (hs : w.heap.size + 3 ≤ gb) (hs2 : gb < gr) {g off : Nat} (hg : gr < g) (cs : Array Value) : RN w ir inn c A m cap q t l r gb gr (recAt W g off cs) :=
  have hb := below_recAt (off := off) h.hb (show w.heap.size ≤ g by omega) cs
  ⟨hb, h.ib.recAt_far (by omega), h.cb.recAt_far (by omega), h.ab.recAt_far (by omega), h.bb.recAt_far (by omega), h.rb.recAt_far (by omega), hI.keep hb⟩
end
set_option maxHeartbeats 16000000 in
theorem rescnone_walk (f ir inn : Int) (c : CmdT) (A : Option Addr) (m cap : Nat) (q t : Int) (l : List IdP) (who sta : Int) (w : World) (hT : Tabs w) (hf : (Lit.int .u8 f).wf = true) (wi : (Lit.int .i64 ir).wf = true) (wn : (Lit.int .i64 inn).wf = true) (hc : c.Ok)
    (hmc : m ≤ cap) (hcm : cap ≤ maxLen) (hI : IdsAt w A m l) (wq : (Lit.int .i64 q).wf = true) (wt : (Lit.int .i64 t).wf = true) (hwho : (Lit.int .u8 who).wf = true) (hsta : (Lit.int .u8 sta).wf = true) :
    Calls Tryd.prog 5 #[.int .u8 f, .agg #[.int .i64 ir, .int .i64 inn], c.v, .agg #[.slice A m cap, .int .i64 q, .int .i64 t], .int .u8 who, .int .u8 sta] w (Gives w (.bool true)) := by
  have hf' := wf_u8 hf
  have hwho' := wf_u8 hwho
  have hsta' := wf_u8 hsta
  clear hf hwho hsta
  obtain ⟨N, hN, hN3⟩ : ∃ N : Nat, (N : Int) = 3 + 2 * (f % 3) ∧ (N = 3 ∨ N = 5 ∨ N = 7) := ⟨(3 + 2 * (f % 3)).toNat, by omega, by omega⟩
  have hrem : f.tmod 3 = f % 3 := Int.tmod_eq_emod_of_nonneg hf'.1
  have hw0 : IntKind.i64.wrap f = f := IntWalk.i64_in _ (by omega)
  have hw1 : IntKind.i64.wrap (f % 3) = f % 3 := IntWalk.i64_in _ (by omega)
  have hw2 : IntKind.i64.wrap (2 * (f % 3)) = 2 * (f % 3) := IntWalk.i64_in _ (by omega)
  have hw3 : IntKind.i64.wrap (3 + 2 * (f % 3)) = N := by rw [hN]; exact IntWalk.i64_in _ (by omega)
  have hw4 : IntKind.i64.wrap sta = sta := IntWalk.i64_in _ (by omega)
  have hrem2 : sta.tmod 3 = sta % 3 := Int.tmod_eq_emod_of_nonneg hsta'.1
  have hw5 : IntKind.i64.wrap (sta % 3) = sta % 3 := IntWalk.i64_in _ (by omega)
  obtain ⟨st, hst⟩ : ∃ st, st = 1 + sta % 3 := ⟨_, rfl⟩
  have hst3 : st = 1 ∨ st = 2 ∨ st = 3 := by omega
  have hw6 : IntKind.i64.wrap (1 + sta % 3) = st := by rw [hst]; exact IntWalk.i64_in _ (by omega)
  have hw7 : IntKind.i64.wrap who = who := IntWalk.i64_in _ (by omega)
  obtain ⟨r, hr0⟩ : ∃ r : RecT, r = ⟨ir, inn, st, 2, 1, 1, 2, c.kind, c.client, c.seq, c.key, c.val, c.rev, A, m, cap, q, t, l⟩ := ⟨_, rfl⟩
  have Hr := Lib.hid hr0
  have HN := Lib.hid hN
  have Hc := Lib.hid hc
  have HI := Lib.hid hI
  have HT := Lib.hid hT
  clear hr0 hN hst hc hI hT
  unfold CmdT.v
  obtain ⟨W3, hW3⟩ : ∃ W3, W3 = ((w.alloc (.cells #[.int .i64 ir, .int .i64 inn] 28)).alloc (.cells #[.int .i64 c.kind, .int .i64 c.client, .int .i64 c.seq, .string c.key, .string c.val, .int .i64 c.rev] 23)).alloc (.cells #[.slice A m cap, .int .i64 q, .int .i64 t] 26) := ⟨_, rfl⟩
  go_enter Tryd.func5, Tryd.ntmps5
  go_upto_region 2 with fail
  have k3 : Below w.heap.size w W3 := by rw [hW3]; ((repeat' first | with_reducible exact Below.refl _ _ | with_reducible assumption | with_reducible refine Below.alloc ?_ ?_ _ | with_reducible refine Below.setCell ?_ ?_ _ | with_reducible apply Below.drew | with_reducible apply below_drewN | with_reducible refine below_call ?_ (by with_reducible assumption) ?_) <;> (first | omega | (simp; done) | (simp; omega) | (simp at *; omega)))
  have s3 : w.heap.size + 3 ≤ W3.heap.size := by rw [hW3]; simp
  have ib3 : Blk W3 w.heap.size 28 #[.int .i64 ir, .int .i64 inn] := by rw [hW3]; exact ((Blk.new _ _ _).alloc _).alloc _
  have cb3 : Blk W3 (w.heap.size + 1) 23 #[.int .i64 c.kind, .int .i64 c.client, .int .i64 c.seq, .string c.key, .string c.val, .int .i64 c.rev] := by rw [hW3]; exact (Blk.newAt (by simp)).alloc _
  have ab3 : Blk W3 (w.heap.size + 1 + 1) 26 #[.slice A m cap, .int .i64 q, .int .i64 t] := by rw [hW3]; exact Blk.newAt (by simp)
  have hs3 : (w.heap.size + 1 + 1 + 1) = W3.heap.size := by rw [hW3]; simp
  rw [← hW3]
  clear hW3
  have HS3 := Lib.hid hs3
  clear hs3
  have ibc := ib3.cell
  have cbc := cb3.cell
  have abc := ab3.cell
  have aw := fun W (hb : Below w.heap.size w W) => awake25 W (HT.out.keep hb)
  by_cases g1 : 40 < m
  · have g1' : (40 : Int) < (m : Int) := by omega
    go_wp2_with (go_at_call 11; (with_reducible refine (aw _ (by ((repeat' first | with_reducible exact Below.refl _ _ | with_reducible assumption | with_reducible refine Below.alloc ?_ ?_ _ | with_reducible refine Below.setCell ?_ ?_ _ | with_reducible apply Below.drew | with_reducible apply below_drewN | with_reducible refine below_call ?_ (by with_reducible assumption) ?_) <;> (first | omega | (simp; done) | (simp; omega) | (simp at *; omega))))).mono ?_); rintro e w' ⟨rfl, hb'⟩; have hz' := hb'.size)
    go_ret
    exact ⟨rfl, by ((repeat' first | with_reducible exact Below.refl _ _ | with_reducible assumption | with_reducible refine Below.alloc ?_ ?_ _ | with_reducible refine Below.setCell ?_ ?_ _ | with_reducible apply Below.drew | with_reducible apply below_drewN | with_reducible refine below_call ?_ (by with_reducible assumption) ?_) <;> (first | omega | (simp; done) | (simp; omega) | (simp at *; omega)))⟩
  have g1' : ¬ (40 : Int) < (m : Int) := by omega
  by_cases g2 : 200 < c.key.size
  · have g2' : (200 : Int) < (c.key.size : Int) := by omega
    go_wp2_with (go_at_call 11; (with_reducible refine (aw _ (by ((repeat' first | with_reducible exact Below.refl _ _ | with_reducible assumption | with_reducible refine Below.alloc ?_ ?_ _ | with_reducible refine Below.setCell ?_ ?_ _ | with_reducible apply Below.drew | with_reducible apply below_drewN | with_reducible refine below_call ?_ (by with_reducible assumption) ?_) <;> (first | omega | (simp; done) | (simp; omega) | (simp at *; omega))))).mono ?_); rintro e w' ⟨rfl, hb'⟩; have hz' := hb'.size)
    go_ret
    exact ⟨rfl, by ((repeat' first | with_reducible exact Below.refl _ _ | with_reducible assumption | with_reducible refine Below.alloc ?_ ?_ _ | with_reducible refine Below.setCell ?_ ?_ _ | with_reducible apply Below.drew | with_reducible apply below_drewN | with_reducible refine below_call ?_ (by with_reducible assumption) ?_) <;> (first | omega | (simp; done) | (simp; omega) | (simp at *; omega)))⟩
  have g2' : ¬ (200 : Int) < (c.key.size : Int) := by omega
  by_cases g3 : 2000 < c.val.size
  · have g3' : (2000 : Int) < (c.val.size : Int) := by omega
    go_wp2_with (go_at_call 11; (with_reducible refine (aw _ (by ((repeat' first | with_reducible exact Below.refl _ _ | with_reducible assumption | with_reducible refine Below.alloc ?_ ?_ _ | with_reducible refine Below.setCell ?_ ?_ _ | with_reducible apply Below.drew | with_reducible apply below_drewN | with_reducible refine below_call ?_ (by with_reducible assumption) ?_) <;> (first | omega | (simp; done) | (simp; omega) | (simp at *; omega))))).mono ?_); rintro e w' ⟨rfl, hb'⟩; have hz' := hb'.size)
    go_ret
    exact ⟨rfl, by ((repeat' first | with_reducible exact Below.refl _ _ | with_reducible assumption | with_reducible refine Below.alloc ?_ ?_ _ | with_reducible refine Below.setCell ?_ ?_ _ | with_reducible apply Below.drew | with_reducible apply below_drewN | with_reducible refine below_call ?_ (by with_reducible assumption) ?_) <;> (first | omega | (simp; done) | (simp; omega) | (simp at *; omega)))⟩
  have g3' : ¬ (2000 : Int) < (c.val.size : Int) := by omega
  go_upto_region 5 with fail
  obtain ⟨gb, hgb⟩ : ∃ gb, gb = W3.heap.size := ⟨_, rfl⟩
  have k4 := k3.alloc k3.size (.cells #[.int .i64 2, .int .i64 1] 30)
  have ib := ib3.alloc (.cells #[.int .i64 2, .int .i64 1] 30)
  have cb := cb3.alloc (.cells #[.int .i64 2, .int .i64 1] 30)
  have ab := ab3.alloc (.cells #[.int .i64 2, .int .i64 1] 30)
  have bb := Blk.new W3 30 #[.int .i64 2, .int .i64 1]
  rw [← hgb] at bb s3 ⊢
  have hb4 := bb.lt
  clear ibc cbc abc ib3 cb3 ab3 k3 HS3
  revert k4 ib cb ab bb hb4
  generalize W3.alloc _ = W4
  intro k4 ib cb ab bb hb4
  clear hgb
  have ibc := ib.cell
  have cbc := cb.cell
  have abc := ab.cell
  have bbc := bb.cell
  go_upto_region 6 with fail
  have kr := below_one (w := W4) (.cells #[.int .i64 ir, .int .i64 inn, .int .i64 st, .int .i64 2, .int .i64 1, .int .i64 1, .int .i64 2, .int .i64 c.kind, .int .i64 c.client, .int .i64 c.seq, .string c.key, .string c.val, .int .i64 c.rev, .slice A m cap, .int .i64 q, .int .i64 t] 33)
  have P : RN w ir inn c A m cap q t l r gb W4.heap.size (W4.alloc (.cells #[.int .i64 ir, .int .i64 inn, .int .i64 st, .int .i64 2, .int .i64 1, .int .i64 1, .int .i64 2, .int .i64 c.kind, .int .i64 c.client, .int .i64 c.seq, .string c.key, .string c.val, .int .i64 c.rev, .slice A m cap, .int .i64 q, .int .i64 t] 33)) :=
    ⟨below_call k4 kr k4.size, ib.keep kr, cb.keep kr, ab.keep kr, bb.keep kr, by rw [Hr.out]; exact Blk.new _ _ _, HI.out.keep (below_call k4 kr k4.size)⟩
  clear ibc cbc abc bbc kr ib cb ab bb
  revert P
  generalize hgr : W4.heap.size = gr at hb4
  generalize W4.alloc _ = W5
  intro P
  clear hgr k4
  have rOk : ∀ W, IdsAt W A m l → r.Ok W := fun W h => by
    have z : ∀ x : Int, 0 ≤ x → x ≤ 1000 → (Lit.int .i64 x).wf = true := fun x h1 h2 => by simp [Lit.wf, IntKind.min, IntKind.max, IntKind.bits, IntKind.signed]; omega
    rw [Hr.out]
    exact { i := wi, n := wn, st := z st (by omega) (by omega), br := z 2 (by omega) (by omega), bb := z 1 (by omega) (by omega), tr := z 1 (by omega) (by omega), tb := z 2 (by omega) (by omega), k := Hc.out.kind, c := Hc.out.client, q := Hc.out.seq, y := Hc.out.key, x := Hc.out.val, r := Hc.out.rev, m := hmc, cap := hcm, l := h, sq := wq, tg := wt }
  have ckr : ∀ W, RN w ir inn c A m cap q t l r gb gr W → Calls Tryd.prog 10 #[.agg #[.int .i64 r.i, .int .i64 r.n, .int .i64 r.st, .int .i64 r.br, .int .i64 r.bb, .int .i64 r.tr, .int .i64 r.tb, .int .i64 r.k, .int .i64 r.c, .int .i64 r.q, .string r.y, .string r.x, .int .i64 r.r, .slice r.A r.m r.cap, .int .i64 r.sq, .int .i64 r.tg]] W (Gives W (.int .i64 (recErr (recOk r)))) := fun W h => reccheck_any r W (rOk W h.ids) (HT.out.keep h.hb)
  have ROk := Lib.hid rOk
  have AW := Lib.hid aw
  clear rOk aw
  have lr := rec_load P.rb
  have ibc := P.ib.cell
  have cbc := P.cb.cell
  have abc := P.ab.cell
  have bbc := P.bb.cell
  cases x1 : recOk r
  · rw [x1] at ckr
    simp only [recErr] at ckr
    go_wp2_with (first | (go_at_call 10; (with_reducible refine (ckr _ P).mono ?_); rintro e w' ⟨rfl, hb'⟩; have Pn := P.keep hb'; clear P lr ibc cbc abc bbc hb'; have P := Pn; clear Pn; have lr := rec_load P.rb; have ibc := P.ib.cell; have cbc := P.cb.cell; have abc := P.ab.cell; have bbc := P.bb.cell) | (go_at_call 11; (with_reducible refine (AW.out _ P.hb).mono ?_); rintro e w' ⟨rfl, hb'⟩; have Pn := P.keep hb'; clear P lr ibc cbc abc bbc hb'; have P := Pn; clear Pn; have lr := rec_load P.rb; have ibc := P.ib.cell; have cbc := P.cb.cell; have abc := P.ab.cell; have bbc := P.bb.cell))
    go_ret
    exact ⟨rfl, P.hb⟩
  rw [x1] at ckr
  simp only [recErr] at ckr
  go_upto_region 10 with (first | (go_at_call 10; (with_reducible refine (ckr _ P).mono ?_); rintro e w' ⟨rfl, hb'⟩; have Pn := P.keep hb'; clear P lr ibc cbc abc bbc hb'; have P := Pn; clear Pn; have lr := rec_load P.rb; have ibc := P.ib.cell; have cbc := P.cb.cell; have abc := P.ab.cell; have bbc := P.bb.cell) | (go_at_call 11; (with_reducible refine (AW.out _ P.hb).mono ?_); rintro e w' ⟨rfl, hb'⟩; have Pn := P.keep hb'; clear P lr ibc cbc abc bbc hb'; have P := Pn; clear Pn; have lr := rec_load P.rb; have ibc := P.ib.cell; have cbc := P.cb.cell; have abc := P.ab.cell; have bbc := P.bb.cell))
  clear ckr
  have hNN : 3 ≤ N ∧ N ≤ 7 := by omega
  obtain ⟨Qn, hQ, hQ2⟩ : ∃ Qn : Nat, quo (N : Int) = (Qn : Int) ∧ 2 * Qn = N + 1 := by
    clear lr P
    rcases hN3 with h | h | h <;> subst h
    · exact ⟨2, rfl, rfl⟩
    · exact ⟨3, rfl, rfl⟩
    · exact ⟨4, rfl, rfl⟩
  have hqu := fun W => quorum_any (N : Int) W (by omega) (by omega)
  rw [hQ] at hqu
  obtain ⟨ent, hent⟩ : ∃ ent : Nat → SeenT, ent = fun (j : Nat) => ⟨(j : Int), bareRec ir inn 2 1⟩ := ⟨_, rfl⟩
  have Hent := Lib.hid hent
  have HQ := Lib.hid hQ
  clear hent hQ
  obtain ⟨i0, hi, hz0, hzz, hz2⟩ := seeninfo
  go_loopw [16, 17] (fun s16 s17 wr => ∃ (j : Nat) (A9 : Option Addr) (c9 : Nat), j ≤ Qn ∧ s16 = .slice A9 j c9 ∧ s17 = .int .i64 j ∧ RN w ir inn c A m cap q t l r gb gr wr ∧ wr.ownsRow (gr + 1) 40 17 (.slice A9 j c9) j (flatS (lst ent j))) (fun _ s17 _ => Qn - (intOf s17).toNat)
  case atStart => exact ⟨0, none, 0, by omega, rfl, rfl, P, World.ownsRow_nil _ _ _ _⟩
  case round =>
    clear P lr ibc cbc abc bbc
    obtain ⟨j, A9, c9, hj, rfl, rfl, P, hown⟩ := hrel
    have hzu := P.rb.lt
    have lr := rec_load P.rb
    have ibc := P.ib.cell
    have cbc := P.cb.cell
    have abc := P.ab.cell
    have bbc := P.bb.cell
    by_cases hlt : j < Qn
    · have j1 : (j : Int) < (Qn : Int) := by omega
      have Eent : Hid (ent j = ⟨(j : Int), bareRec ir inn 2 1⟩) := Lib.hid (by rw [Hent.out])
      go_wp2_with (first | (go_at_call 12; refine (hqu _).mono ?_; rintro e w2 ⟨rfl, rfl⟩) | ((at_builtin; go_loud (refine wpList_app _ rfl (.tmp 64) (.tmp 70) 37 rfl _ 40 i0 _ 17 168 Tryd.underlying37 hi hz0 hzz hz2 rfl (by omega) _ _ _ rfl (own_keep8 hown (below_one (.cells #[.int .i64 j, .int .i64 ir, .int .i64 inn, .int .i64 0, .int .i64 2, .int .i64 1, .int .i64 0, .int .i64 0, .int .i64 0, .int .i64 0, .int .i64 0, .string ⟨#[]⟩, .string ⟨#[]⟩, .int .i64 0, .slice none 0 0, .int .i64 0, .int .i64 0] 40))) _ _ _ _ rfl (src_seen ⟨(j : Int), bareRec ir inn 2 1⟩) ?h63 ?hby ?hbase ?_); (case h63 => (unfold maxLen; first | omega | (simp; done) | (simp; omega))); (case hby => first | omega | (simp; done) | (simp; omega)); (case hbase => first | omega | (simp; done) | (simp; omega)); intro v9 w9 hownw9 hgroww9 hatw9 holdw9)))
      obtain ⟨A8, c8, rfl, _, _⟩ := own_form8 hownw9
      go_roundw
      case rel => exact ⟨j + 1, A8, c8, by omega, rfl, by go_num, (P.keep (below_one _)).app HI.out (by omega) (by omega) (own_keep8 hown (below_one _)) hgroww9, by rw [lst, flatS_snoc, Eent.out]; exact hownw9⟩
      case measure => simp [intOf]; omega
    · obtain rfl : j = Qn := by omega
      obtain ⟨g9, hA9, hg9, hc9⟩ : ∃ g9, A9 = some ⟨g9, 0, none⟩ ∧ gr + 1 ≤ g9 ∧ j ≤ c9 := by
        rcases hown.2 with ⟨_, h0⟩ | ⟨g, cp, cur, hv, hb, _, hn, _⟩
        · omega
        · injection hv with h1 _ h3
          exact ⟨g, h1, hb, by omega⟩
      subst hA9
      have hid : idRight (ir, inn) = true := by
        have h := x1
        rw [Hr.out] at h
        unfold recOk at h
        split at h
        · cases h
        · rename_i g
          simp only [not_or, Bool.not_eq_false] at g
          exact g.1
      have uok : recOk (bareRec ir inn 2 1) = true := bare_ok hid (by decide)
      have uOk : ∀ W, (bareRec ir inn 2 1).Ok W := fun W => bare_okw W wi wn (by decide) (by decide)
      have hmem : ∀ s ∈ lst ent j, s.r = bareRec ir inn 2 1 := fun s hs => by obtain ⟨k, hk, rfl⟩ := mem_lst.1 hs; rw [Hent.out]
      have hS : SeensAt wr (some ⟨g9, 0, none⟩) j (lst ent j) := seens_own hown (lst_length _ _).symm (by unfold maxLen; omega) (fun s hs => by rw [hmem s hs]; exact uOk _)
      have hgood : Good N ir inn (lst ent j) := ⟨fun s hs => by obtain ⟨k, hk, rfl⟩ := mem_lst.1 hs; rw [Hent.out]; simp only; omega,
        fun s hs => by obtain ⟨k, hk, rfl⟩ := mem_lst.1 hs; rw [Hent.out]; simp only; omega,
        fun s hs => by rw [hmem s hs]; exact peq_iff.2 ⟨rfl, rfl⟩,
        fun s hs => by rw [hmem s hs]; exact uok,
        nodup_lst fun a b ha hb e => by rw [Hent.out] at e; simp only at e; omega⟩
      have hd1 := fun W (hb : Below w.heap.size w W) (hs : SeensAt W (some ⟨g9, 0, none⟩) j (lst ent j)) => decide_any N ir inn (some ⟨g9, 0, none⟩) j c9 (lst ent j) (ent 0) W hs (lst_zero (by omega)) hgood (HT.out.keep hb) (by omega) (by omega) (by omega) (by rw [HQ.out]; omega)
      rw [found_none hmem ⟨ent 0, mem_lst.2 ⟨0, by omega, rfl⟩⟩ rfl] at hd1
      simp only at hd1
      unfold decF noop zeroRec at hd1
      have hd2 : ∀ W, Below w.heap.size w W → SeensAt W (some ⟨g9, 0, none⟩) j (lst ent j) → Calls Tryd.prog 13 #[.int .i64 N, .agg #[.int .i64 ir, .int .i64 inn], .slice (some ⟨g9, 17, none⟩) (j - 1) (c9 - 1)] W (Gives W decZ) := fun W hb hs => by
        have hl := lst_length ent j
        generalize lst ent j = ls at hs hl hgood
        cases ls with
        | nil => simp at hl; omega
        | cons s0 tl =>
          simp at hl
          obtain ⟨j', rfl⟩ : ∃ j', j = j' + 1 := ⟨j - 1, by omega⟩
          have h17 := hs.tail
          rw [Nat.zero_add] at h17
          exact decide_wait N ir inn (some ⟨g9, 17, none⟩) j' (c9 - 1) tl W h17 hgood.tail (HT.out.keep hb) (by omega) (by omega) (by omega) (by rw [HQ.out]; omega)
      unfold decZ at hd2
      have Hd1 := Lib.hid hd1
      have Hd2 := Lib.hid hd2
      have HG := Lib.hid hgood
      have HM := Lib.hid hmem
      have Uok := Lib.hid uok
      have UOk := Lib.hid uOk
      have hce : ceq 0 0 0 ⟨#[]⟩ ⟨#[]⟩ 0 0 0 0 ⟨#[]⟩ ⟨#[]⟩ 0 = true := by simp [ceq]
      have hce2 : ceq 0 0 0 ⟨#[]⟩ ⟨#[]⟩ 0 0 0 0 ByteArray.empty ByteArray.empty 0 = true := hce
      clear hd1 hd2 hgood hmem uok uOk
      go_upto_region 14 with (first | (go_at_call 12; refine (hqu _).mono ?_; rintro e w2 ⟨rfl, rfl⟩) | (go_at_call 13; (with_reducible refine (Hd1.out _ P.hb hS).mono ?_); rintro e w18 ⟨rfl, hb'⟩; have hbd := below_one (w := w18) (.cells #[.int .i64 2, .int .i64 0, .int .i64 0, .int .i64 0, .string ⟨#[]⟩, .string ⟨#[]⟩, .int .i64 0, .slice none 0 0, .int .i64 1, .int .i64 1] 42); have Pn := (P.keep hb').keep hbd; have On := own_keep8 (own_keep8 hown hb') hbd; have Sn := (hS.keep hb').keep hbd; have Db : Blk (w18.alloc (.cells #[.int .i64 2, .int .i64 0, .int .i64 0, .int .i64 0, .string ⟨#[]⟩, .string ⟨#[]⟩, .int .i64 0, .slice none 0 0, .int .i64 1, .int .i64 1] 42)) w18.heap.size 42 #[.int .i64 2, .int .i64 0, .int .i64 0, .int .i64 0, .string ⟨#[]⟩, .string ⟨#[]⟩, .int .i64 0, .slice none 0 0, .int .i64 1, .int .i64 1] := Blk.new _ _ _; clear P hown hS lr ibc cbc abc bbc hb' hbd; have P := Pn; have hown := On; have hS := Sn; clear Pn On Sn; have Dc := Db.cell; have lr := True.intro; have ibc := P.ib.cell; have cbc := P.cb.cell; have abc := P.ab.cell; have bbc := P.bb.cell))
      replace P := P.keep (Below.refl _ _).drew
      replace hown := own_keep8 hown (Below.refl _ _).drew
      replace hS := hS.keep (Below.refl _ _).drew
      replace Db := Blk.keep Db (Below.refl _ _).drew
      clear Dc lr ibc cbc abc bbc
      have hj1 : (1 : Int) ≤ (j : Int) := by omega
      have hc1 : ¬ c9 = 1 := by omega
      have hc1' : (c9 == 1) = false := by simp; omega
      (refine wp_region_held_drew (S := (S11 w18.heap.size w.heap.size #[.int .i64 2, .int .i64 0, .int .i64 0, .int .i64 0, .string ⟨#[]⟩, .string ⟨#[]⟩, .int .i64 0, .slice none 0 0, .int .i64 1, .int .i64 1] #[.int .i64 ir, .int .i64 inn])) (by kernel_rfl) ?_ (fun hHeld => ?_); (· exact ⟨Db.cell, P.ib.cell⟩))
      (refine take_op (i := 0) (v := ?_) rfl (by kernel_rfl) (by kernel_rfl) (by kernel_rfl) (fun _ _ _ h => h) (by rfl) ?_ hHeld ?_; rotate_left; (· (intro wS hSw; (try dsimp only at hSw); go_simp; first | done | with_reducible rfl)); simp only [Act.put, List.setIfInBounds_toArray, List.set_cons_zero, List.set_cons_succ]); (refine take_op (i := 1) (v := ?_) rfl (by kernel_rfl) (by kernel_rfl) (by kernel_rfl) (fun _ _ _ h => h) (by rfl) ?_ hHeld ?_; rotate_left; (· (intro wS hSw; (try dsimp only at hSw); go_simp; first | done | with_reducible rfl)); simp only [Act.put, List.setIfInBounds_toArray, List.set_cons_zero, List.set_cons_succ]); (refine take_op (i := 2) (v := ?_) rfl (by kernel_rfl) (by kernel_rfl) (by kernel_rfl) (fun _ _ _ h => h) (by rfl) ?_ hHeld ?_; rotate_left; (· (intro wS hSw; (try dsimp only at hSw); go_simp; first | done | with_reducible rfl)); simp only [Act.put, List.setIfInBounds_toArray, List.set_cons_zero, List.set_cons_succ]); (refine take_op (i := 3) (v := ?_) rfl (by kernel_rfl) (by kernel_rfl) (by kernel_rfl) (fun _ _ _ h => h) (by rfl) ?_ hHeld ?_; rotate_left; (· (intro wS hSw; (try dsimp only at hSw); go_simp; first | done | with_reducible rfl)); simp only [Act.put, List.setIfInBounds_toArray, List.set_cons_zero, List.set_cons_succ]); (refine take_op (i := 4) (v := ?_) rfl (by kernel_rfl) (by kernel_rfl) (by kernel_rfl) (fun _ _ _ h => h) (by rfl) ?_ hHeld ?_; rotate_left; (· (intro wS hSw; (try dsimp only at hSw); go_simp; first | done | with_reducible rfl)); simp only [Act.put, List.setIfInBounds_toArray, List.set_cons_zero, List.set_cons_succ]); (refine take_op (i := 5) (v := ?_) rfl (by kernel_rfl) (by kernel_rfl) (by kernel_rfl) (fun _ _ _ h => h) (by rfl) ?_ hHeld ?_; rotate_left; (· (intro wS hSw; (try dsimp only at hSw); go_simp; first | done | with_reducible rfl)); simp only [Act.put, List.setIfInBounds_toArray, List.set_cons_zero, List.set_cons_succ]); (refine take_op (i := 6) (v := ?_) rfl (by kernel_rfl) (by kernel_rfl) (by kernel_rfl) (fun _ _ _ h => h) (by rfl) ?_ hHeld ?_; rotate_left; (· (intro wS hSw; (try dsimp only at hSw); go_simp; first | done | with_reducible rfl)); simp only [Act.put, List.setIfInBounds_toArray, List.set_cons_zero, List.set_cons_succ]); (refine take_op (i := 7) (v := ?_) rfl (by kernel_rfl) (by kernel_rfl) (by kernel_rfl) (fun _ _ _ h => h) (by rfl) ?_ hHeld ?_; rotate_left; (· (intro wS hSw; (try dsimp only at hSw); go_simp; first | done | with_reducible rfl)); simp only [Act.put, List.setIfInBounds_toArray, List.set_cons_zero, List.set_cons_succ]); (refine take_op (i := 8) (v := ?_) rfl (by kernel_rfl) (by kernel_rfl) (by kernel_rfl) (fun _ _ _ h => h) (by rfl) ?_ hHeld ?_; rotate_left; (· (intro wS hSw; (try dsimp only at hSw); go_simp; first | done | with_reducible rfl)); simp only [Act.put, List.setIfInBounds_toArray, List.set_cons_zero, List.set_cons_succ]); (refine take_op (i := 9) (v := ?_) rfl (by kernel_rfl) (by kernel_rfl) (by kernel_rfl) (fun _ _ _ h => h) (by rfl) ?_ hHeld ?_; rotate_left; (· (intro wS hSw; (try dsimp only at hSw); go_simp; first | done | with_reducible rfl)); simp only [Act.put, List.setIfInBounds_toArray, List.set_cons_zero, List.set_cons_succ]); (refine take_op (i := 10) (v := ?_) rfl (by kernel_rfl) (by kernel_rfl) (by kernel_rfl) (fun _ _ _ h => h) (by rfl) ?_ hHeld ?_; rotate_left; (· (intro wS hSw; (try dsimp only at hSw); go_simp; first | done | with_reducible rfl)); simp only [Act.put, List.setIfInBounds_toArray, List.set_cons_zero, List.set_cons_succ]); (refine take_op (i := 11) (v := ?_) rfl (by kernel_rfl) (by kernel_rfl) (by kernel_rfl) (fun _ _ _ h => h) (by rfl) ?_ hHeld ?_; rotate_left; (· (intro wS hSw; (try dsimp only at hSw); go_simp; first | done | with_reducible rfl)); simp only [Act.put, List.setIfInBounds_toArray, List.set_cons_zero, List.set_cons_succ]); (refine take_op (i := 12) (v := ?_) rfl (by kernel_rfl) (by kernel_rfl) (by kernel_rfl) (fun _ _ _ h => h) (by rfl) ?_ hHeld ?_; rotate_left; (· (intro wS hSw; (try dsimp only at hSw); go_simp; first | done | with_reducible rfl)); simp only [Act.put, List.setIfInBounds_toArray, List.set_cons_zero, List.set_cons_succ]); (refine take_op (i := 13) (v := ?_) rfl (by kernel_rfl) (by kernel_rfl) (by kernel_rfl) (fun _ _ _ h => h) (by rfl) ?_ hHeld ?_; rotate_left; (· (intro wS hSw; (try dsimp only at hSw); go_simp; first | done | with_reducible rfl)); simp only [Act.put, List.setIfInBounds_toArray, List.set_cons_zero, List.set_cons_succ])
      (refine call_op (i := 14) rfl (by kernel_rfl) (by rfl) (fun K hK => ?_); go_simp; (go_at_call 13; (with_reducible refine (Hd2.out _ P.hb hS).mono ?_); rintro e w19 ⟨rfl, hb'⟩; replace P := P.keep hb'; replace hown := own_keep8 hown hb'; replace hS := hS.keep hb'; replace Db := Blk.keep Db hb'; clear hb'); refine hK.out _ _ ⟨Db.cell, P.ib.cell⟩ (fun hHeld2 => ?_); clear hK K hHeld; have hHeld := hHeld2; clear hHeld2; (try simp only [Act.put, List.setIfInBounds_toArray, List.set_cons_zero, List.set_cons_succ]))
      (refine take_op (i := 15) (v := ?_) rfl (by kernel_rfl) (by kernel_rfl) (by kernel_rfl) (fun _ _ _ h => h) (by rfl) ?_ hHeld ?_; rotate_left; (· (intro wS hSw; (try dsimp only at hSw); go_simp; first | done | with_reducible rfl)); simp only [Act.put, List.setIfInBounds_toArray, List.set_cons_zero, List.set_cons_succ]); (refine take_op (i := 16) (v := ?_) rfl (by kernel_rfl) (by kernel_rfl) (by kernel_rfl) (fun _ _ _ h => h) (by rfl) ?_ hHeld ?_; rotate_left; (· (intro wS hSw; (try dsimp only at hSw); go_simp; first | done | with_reducible rfl)); simp only [Act.put, List.setIfInBounds_toArray, List.set_cons_zero, List.set_cons_succ]); (refine take_op (i := 17) (v := ?_) rfl (by kernel_rfl) (by kernel_rfl) (by kernel_rfl) (fun _ _ _ h => h) (by rfl) ?_ hHeld ?_; rotate_left; (· (intro wS hSw; (try dsimp only at hSw); go_simp; first | done | with_reducible rfl)); simp only [Act.put, List.setIfInBounds_toArray, List.set_cons_zero, List.set_cons_succ])
      (refine wpAnyH_done (by kernel_rfl) ?_ _)
      clear hHeld Db Hd1 Hd2
      have lr := rec_load P.rb
      have ibc := P.ib.cell
      have cbc := P.cb.cell
      have abc := P.ab.cell
      have bbc := P.bb.cell
      go_upto_region 16 with fail
      obtain ⟨jj, hjj, hjl⟩ : ∃ jj : Nat, (jj : Int) = who % j ∧ jj < j := ⟨(who % j).toNat, by
        have := Int.emod_nonneg who (b := (j : Int)) (by omega)
        omega, by
        have := Int.emod_nonneg who (b := (j : Int)) (by omega)
        have := Int.emod_lt_of_pos who (b := (j : Int)) (by omega)
        omega⟩
      have hrem7 : who.tmod j = jj := by rw [hjj]; exact Int.tmod_eq_emod_of_nonneg hwho'.1
      have hw8 : IntKind.i64.wrap (jj : Int) = jj := IntWalk.i64_in _ (by omega)
      have hj0 : ((j : Int) == 0) = false := by simp; omega
      have hj0' : ((j : Int) = 0) = False := by simp; omega
      have hj0n : (j = 0) = False := by simp; omega
      have hjj0 : (0 : Int) ≤ (jj : Int) := by omega
      have hjj1 : (jj : Int) < (j : Int) := by omega
      clear hjj
      replace P := P.keep (Below.refl _ _).drew
      replace hown := own_keep8 hown (Below.refl _ _).drew
      replace hS := hS.keep (Below.refl _ _).drew
      have sr := rec_store_at (own_there hown hjl) r
      clear lr ibc cbc abc bbc
      have lr := True.intro
      have ibc := True.intro
      have cbc := True.intro
      have abc := True.intro
      have bbc := True.intro
      (refine wp_region_held_drew (S := (SL gr #[.int .i64 r.i, .int .i64 r.n, .int .i64 r.st, .int .i64 r.br, .int .i64 r.bb, .int .i64 r.tr, .int .i64 r.tb, .int .i64 r.k, .int .i64 r.c, .int .i64 r.q, .string r.y, .string r.x, .int .i64 r.r, .slice r.A r.m r.cap, .int .i64 r.sq, .int .i64 r.tg])) (by kernel_rfl) ?_ (fun hHeld => ?_); (· exact P.rb.sl))
      (refine take_op (i := 0) (v := ?_) rfl (by kernel_rfl) (by kernel_rfl) (by kernel_rfl) (fun _ _ _ h => h) (by rfl) ?_ hHeld ?_; rotate_left; (· (intro wS hSw; (try dsimp only at hSw); go_simp; first | done | with_reducible rfl)); simp only [Act.put, List.setIfInBounds_toArray, List.set_cons_zero, List.set_cons_succ]); (refine take_op (i := 1) (v := ?_) rfl (by kernel_rfl) (by kernel_rfl) (by kernel_rfl) (fun _ _ _ h => h) (by rfl) ?_ hHeld ?_; rotate_left; (· (intro wS hSw; (try dsimp only at hSw); go_simp; first | done | with_reducible rfl)); simp only [Act.put, List.setIfInBounds_toArray, List.set_cons_zero, List.set_cons_succ]); (refine take_op (i := 2) (v := ?_) rfl (by kernel_rfl) (by kernel_rfl) (by kernel_rfl) (fun _ _ _ h => h) (by rfl) ?_ hHeld ?_; rotate_left; (· (intro wS hSw; (try dsimp only at hSw); go_simp; first | done | with_reducible rfl)); simp only [Act.put, List.setIfInBounds_toArray, List.set_cons_zero, List.set_cons_succ]); (refine take_op (i := 3) (v := ?_) rfl (by kernel_rfl) (by kernel_rfl) (by kernel_rfl) (fun _ _ _ h => h) (by rfl) ?_ hHeld ?_; rotate_left; (· (intro wS hSw; (try dsimp only at hSw); go_simp; first | done | with_reducible rfl)); simp only [Act.put, List.setIfInBounds_toArray, List.set_cons_zero, List.set_cons_succ]); (refine take_op (i := 4) (v := ?_) rfl (by kernel_rfl) (by kernel_rfl) (by kernel_rfl) (fun _ _ _ h => h) (by rfl) ?_ hHeld ?_; rotate_left; (· (intro wS hSw; (try dsimp only at hSw); go_simp; first | done | with_reducible rfl)); simp only [Act.put, List.setIfInBounds_toArray, List.set_cons_zero, List.set_cons_succ]); (refine take_op (i := 5) (v := ?_) rfl (by kernel_rfl) (by kernel_rfl) (by kernel_rfl) (fun _ _ _ h => h) (by rfl) ?_ hHeld ?_; rotate_left; (· (intro wS hSw; (try dsimp only at hSw); go_simp; first | done | with_reducible rfl)); simp only [Act.put, List.setIfInBounds_toArray, List.set_cons_zero, List.set_cons_succ]); (refine take_op (i := 6) (v := ?_) rfl (by kernel_rfl) (by kernel_rfl) (by kernel_rfl) (fun _ _ _ h => h) (by rfl) ?_ hHeld ?_; rotate_left; (· (intro wS hSw; (try dsimp only at hSw); go_simp; first | done | with_reducible rfl)); simp only [Act.put, List.setIfInBounds_toArray, List.set_cons_zero, List.set_cons_succ]); (refine take_op (i := 7) (v := ?_) rfl (by kernel_rfl) (by kernel_rfl) (by kernel_rfl) (fun _ _ _ h => h) (by rfl) ?_ hHeld ?_; rotate_left; (· (intro wS hSw; (try dsimp only at hSw); go_simp; first | done | with_reducible rfl)); simp only [Act.put, List.setIfInBounds_toArray, List.set_cons_zero, List.set_cons_succ]); (refine take_op (i := 8) (v := ?_) rfl (by kernel_rfl) (by kernel_rfl) (by kernel_rfl) (fun _ _ _ h => h) (by rfl) ?_ hHeld ?_; rotate_left; (· (intro wS hSw; (try dsimp only at hSw); go_simp; first | done | with_reducible rfl)); simp only [Act.put, List.setIfInBounds_toArray, List.set_cons_zero, List.set_cons_succ])
      have P2 := P.put HI.out (by omega) (by omega) (g := g9) (off := jj * 17 + 1) (by omega) #[.int .i64 r.i, .int .i64 r.n, .int .i64 r.st, .int .i64 r.br, .int .i64 r.bb, .int .i64 r.tr, .int .i64 r.tb, .int .i64 r.k, .int .i64 r.c, .int .i64 r.q, .string r.y, .string r.x, .int .i64 r.r, .slice r.A r.m r.cap, .int .i64 r.sq, .int .i64 r.tg]
      (refine call_op (i := 9) rfl (by kernel_rfl) (by rfl) (fun K hK => ?_); go_simp; skip; refine hK.out _ _ P2.rb.sl (fun hHeld2 => ?_); clear hK K hHeld; have hHeld := hHeld2; clear hHeld2; (try simp only [Act.put, List.setIfInBounds_toArray, List.set_cons_zero, List.set_cons_succ]))
      (refine wpAnyH_done (by kernel_rfl) ?_ _)
      have S2 := hS.put (own_there hown hjl) (lst_get hjl) r (fun x hx => by
        rcases List.mem_or_eq_of_mem_set hx with h | h
        · rw [HM.out x h]; exact UOk.out _
        · rw [h]; exact ROk.out _ P2.ids)
      rw [lst_set] at S2
      clear hHeld sr hS hown P
      obtain ⟨ent2, hent2⟩ : ∃ ent2 : Nat → SeenT, ent2 = fun k => if k = jj then ⟨(ent jj).f, r⟩ else ent k := ⟨_, rfl⟩
      rw [← hent2] at S2
      have hfr : ∀ k, (ent2 k).f = (k : Int) := fun k => by
        rw [hent2]
        by_cases h : k = jj
        · simp only [h, if_true]; rw [Hent.out]
        · simp only [h, if_false]; rw [Hent.out]
      have hrr : ∀ k, (ent2 k).r = r ∨ (ent2 k).r = bareRec ir inn 2 1 := fun k => by
        rw [hent2]
        by_cases h : k = jj
        · exact .inl (by simp [h])
        · exact .inr (by simp only [h, if_false]; rw [Hent.out])
      have hjr : (ent2 jj).r = r := by rw [hent2]; simp
      have hnr : ∀ k, k ≠ jj → (ent2 k).r = bareRec ir inn 2 1 := fun k h => by rw [hent2]; simp only [h, if_false]; rw [Hent.out]
      have hg2 : Good N ir inn (lst ent2 j) := ⟨fun s hs => by obtain ⟨k, hk, rfl⟩ := mem_lst.1 hs; rw [hfr]; omega,
        fun s hs => by obtain ⟨k, hk, rfl⟩ := mem_lst.1 hs; rw [hfr]; omega,
        fun s hs => by
          obtain ⟨k, hk, rfl⟩ := mem_lst.1 hs
          rcases hrr k with h | h
          · rw [h, Hr.out]; exact peq_iff.2 ⟨rfl, rfl⟩
          · rw [h]; exact peq_iff.2 ⟨rfl, rfl⟩,
        fun s hs => by
          obtain ⟨k, hk, rfl⟩ := mem_lst.1 hs
          rcases hrr k with h | h
          · rw [h]; exact x1
          · rw [h]; exact Uok.out,
        nodup_lst fun a b ha hb e => by rw [hfr, hfr] at e; omega⟩
      have hfo := fun ir' f => found_one (r := r) (u := bareRec ir inn 2 1) (ss := lst ent2 j) (fun s hs => by obtain ⟨k, hk, rfl⟩ := mem_lst.1 hs; exact hrr k) ⟨ent2 jj, mem_lst.2 ⟨jj, hjl, rfl⟩, hjr⟩
        (by
          by_cases h : jj = 0
          · exact ⟨ent2 1, mem_lst.2 ⟨1, by omega, rfl⟩, hnr 1 (by omega)⟩
          · exact ⟨ent2 0, mem_lst.2 ⟨0, by omega, rfl⟩, hnr 0 (by omega)⟩)
        (by rw [Hr.out]; exact hst3) rfl (by rw [Hr.out]; show lessB 0 0 1 2 = true; decide) (by rw [Hr.out]; show lessB 1 2 0 0 = false; decide) (by rw [Hr.out]; show lessB 1 2 1 2 = false; decide) ir' f
      have hd3 : ∀ W, Below w.heap.size w W → SeensAt W (some ⟨g9, 0, none⟩) j (lst ent2 j) → Calls Tryd.prog 13 #[.int .i64 N, .agg #[.int .i64 ir, .int .i64 inn], .slice (some ⟨g9, 0, none⟩) j c9] W (Gives W (.agg #[.int .i64 (wantOf st), .int .i64 c.kind, .int .i64 c.client, .int .i64 c.seq, .string c.key, .string c.val, .int .i64 c.rev, .slice A m cap, .int .i64 q, .int .i64 t])) := fun W hb hs => by
        have h := decide_any N ir inn (some ⟨g9, 0, none⟩) j c9 (lst ent2 j) (ent2 0) W hs (lst_zero (by omega)) hg2 (HT.out.keep hb) (by omega) (by omega) (by omega) (by rw [HQ.out]; omega)
        rw [hfo] at h
        rw [Hr.out] at h
        exact h
      have est : r.st = st := by rw [Hr.out]
      have hsm := fun W (h : IdsAt W A m l) => attrsame_any A A m cap m cap q t q t l l W h h
      rw [show asame ⟨l, q, t⟩ ⟨l, q, t⟩ = true from asame_iff.2 rfl] at hsm
      have hce3 : ceq c.kind c.client c.seq c.key c.val c.rev c.kind c.client c.seq c.key c.val c.rev = true := by simp [ceq]
      have Hd3 := Lib.hid hd3
      clear hd3 hfo hg2 hfr hrr hjr hnr hent2 hce hce2 lr ibc cbc abc bbc HM HG
      have ibc := P2.ib.cell
      clear hw0 hw1 hw2 hw3 hw4 hw5 hw6 hw7 hw8 hrem hrem2 hrem7 hj0 hj0' hj0n hc1 hc1' hjj0 hjj1 hj1 g1 g2 g3 g1' g2' g3' hz0 hzz hz2 hi i0
      revert P2 S2
      generalize recAt _ _ _ _ = w30
      intro P2 S2
      have ibc := P2.ib.cell
      rcases hst3 with rfl | rfl | rfl
      · rw [show wantOf 1 = 3 from rfl] at Hd3
        go_upto_region 18 with (go_at_call 13; (with_reducible refine (Hd3.out _ P2.hb S2).mono ?_); rintro e w20 ⟨rfl, hb'⟩; have hbd := below_one (w := w20) (.cells #[.int .i64 3, .int .i64 c.kind, .int .i64 c.client, .int .i64 c.seq, .string c.key, .string c.val, .int .i64 c.rev, .slice A m cap, .int .i64 q, .int .i64 t] 42); have Pn := (P2.keep hb').keep hbd; have Db : Blk (w20.alloc (.cells #[.int .i64 3, .int .i64 c.kind, .int .i64 c.client, .int .i64 c.seq, .string c.key, .string c.val, .int .i64 c.rev, .slice A m cap, .int .i64 q, .int .i64 t] 42)) w20.heap.size 42 #[.int .i64 3, .int .i64 c.kind, .int .i64 c.client, .int .i64 c.seq, .string c.key, .string c.val, .int .i64 c.rev, .slice A m cap, .int .i64 q, .int .i64 t] := Blk.new _ _ _; clear P2 S2 ibc hb' hbd; have P2 := Pn; clear Pn; have ibc := True.intro)
        revert P2 Db
        generalize hgd : w20.heap.size = gd
        generalize World.alloc w20 _ = w21
        intro Db P2
        clear hgd ibc Hd3
        go_upto_region 19 with fail
        have hbw := below_one (w := w21) (.cells #[.int .i64 0, .int .i64 3, .int .i64 2, .int .i64 1] 48)
        have Wb : Blk (w21.alloc (.cells #[.int .i64 0, .int .i64 3, .int .i64 2, .int .i64 1] 48)) w21.heap.size 48 #[.int .i64 0, .int .i64 3, .int .i64 2, .int .i64 1] := Blk.new _ _ _
        replace Wb := Blk.keep Wb (Below.refl _ _).drew
        replace P2 := (P2.keep hbw).keep (Below.refl _ _).drew
        replace Db := Blk.keep (Blk.keep Db hbw) (Below.refl _ _).drew
        clear hbw
        (refine wp_region_held_drew (S := (S5 gd gr w21.heap.size (w.heap.size + 1) (w.heap.size + 1 + 1) #[.int .i64 3, .int .i64 c.kind, .int .i64 c.client, .int .i64 c.seq, .string c.key, .string c.val, .int .i64 c.rev, .slice A m cap, .int .i64 q, .int .i64 t] #[.int .i64 r.i, .int .i64 r.n, .int .i64 r.st, .int .i64 r.br, .int .i64 r.bb, .int .i64 r.tr, .int .i64 r.tb, .int .i64 r.k, .int .i64 r.c, .int .i64 r.q, .string r.y, .string r.x, .int .i64 r.r, .slice r.A r.m r.cap, .int .i64 r.sq, .int .i64 r.tg] #[.int .i64 0, .int .i64 3, .int .i64 2, .int .i64 1] #[.int .i64 c.kind, .int .i64 c.client, .int .i64 c.seq, .string c.key, .string c.val, .int .i64 c.rev] #[.slice A m cap, .int .i64 q, .int .i64 t])) (by kernel_rfl) ?_ (fun hHeld => ?_); (· exact ⟨Db.cell, P2.rb.cell, Wb.cell, P2.cb.cell, P2.ab.cell⟩))
        (refine take_op (i := 0) (v := ?_) rfl (by kernel_rfl) (by kernel_rfl) (by kernel_rfl) (fun _ _ _ h => h) (by rfl) ?_ hHeld ?_; rotate_left; (· (intro wS hSw; (try dsimp only at hSw); go_simp; first | done | with_reducible rfl)); simp only [Act.put, List.setIfInBounds_toArray, List.set_cons_zero, List.set_cons_succ]); (refine take_op (i := 1) (v := ?_) rfl (by kernel_rfl) (by kernel_rfl) (by kernel_rfl) (fun _ _ _ h => h) (by rfl) ?_ hHeld ?_; rotate_left; (· (intro wS hSw; (try dsimp only at hSw); go_simp; first | done | with_reducible rfl)); simp only [Act.put, List.setIfInBounds_toArray, List.set_cons_zero, List.set_cons_succ]); (refine take_op (i := 2) (v := ?_) rfl (by kernel_rfl) (by kernel_rfl) (by kernel_rfl) (fun _ _ _ h => h) (by rfl) ?_ hHeld ?_; rotate_left; (· (intro wS hSw; (try dsimp only at hSw); go_simp; first | done | with_reducible rfl)); simp only [Act.put, List.setIfInBounds_toArray, List.set_cons_zero, List.set_cons_succ]); (refine take_op (i := 3) (v := ?_) rfl (by kernel_rfl) (by kernel_rfl) (by kernel_rfl) (fun _ _ _ h => h) (by rfl) ?_ hHeld ?_; rotate_left; (· (intro wS hSw; (try dsimp only at hSw); go_simp; first | done | with_reducible rfl)); simp only [Act.put, List.setIfInBounds_toArray, List.set_cons_zero, List.set_cons_succ]); (refine take_op (i := 4) (v := ?_) rfl (by kernel_rfl) (by kernel_rfl) (by kernel_rfl) (fun _ _ _ h => h) (by rfl) ?_ hHeld ?_; rotate_left; (· (intro wS hSw; (try dsimp only at hSw); go_simp; first | done | with_reducible rfl)); simp only [Act.put, List.setIfInBounds_toArray, List.set_cons_zero, List.set_cons_succ]); (refine take_op (i := 5) (v := ?_) rfl (by kernel_rfl) (by kernel_rfl) (by kernel_rfl) (fun _ _ _ h => h) (by rfl) ?_ hHeld ?_; rotate_left; (· (intro wS hSw; (try dsimp only at hSw); go_simp; first | done | with_reducible rfl)); simp only [Act.put, List.setIfInBounds_toArray, List.set_cons_zero, List.set_cons_succ]); (refine take_op (i := 6) (v := ?_) rfl (by kernel_rfl) (by kernel_rfl) (by kernel_rfl) (fun _ _ _ h => h) (by rfl) ?_ hHeld ?_; rotate_left; (· (intro wS hSw; (try dsimp only at hSw); go_simp; first | done | with_reducible rfl)); simp only [Act.put, List.setIfInBounds_toArray, List.set_cons_zero, List.set_cons_succ]); (refine take_op (i := 7) (v := ?_) rfl (by kernel_rfl) (by kernel_rfl) (by kernel_rfl) (fun _ _ _ h => h) (by rfl) ?_ hHeld ?_; rotate_left; (· (intro wS hSw; (try dsimp only at hSw); go_simp; first | done | with_reducible rfl)); simp only [Act.put, List.setIfInBounds_toArray, List.set_cons_zero, List.set_cons_succ]); (refine take_op (i := 8) (v := ?_) rfl (by kernel_rfl) (by kernel_rfl) (by kernel_rfl) (fun _ _ _ h => h) (by rfl) ?_ hHeld ?_; rotate_left; (· (intro wS hSw; (try dsimp only at hSw); go_simp; first | done | with_reducible rfl)); simp only [Act.put, List.setIfInBounds_toArray, List.set_cons_zero, List.set_cons_succ]); (refine take_op (i := 9) (v := ?_) rfl (by kernel_rfl) (by kernel_rfl) (by kernel_rfl) (fun _ _ _ h => h) (by rfl) ?_ hHeld ?_; rotate_left; (· (intro wS hSw; (try dsimp only at hSw); go_simp; first | done | with_reducible rfl)); simp only [Act.put, List.setIfInBounds_toArray, List.set_cons_zero, List.set_cons_succ]); (refine take_op (i := 10) (v := ?_) rfl (by kernel_rfl) (by kernel_rfl) (by kernel_rfl) (fun _ _ _ h => h) (by rfl) ?_ hHeld ?_; rotate_left; (· (intro wS hSw; (try dsimp only at hSw); go_simp; first | done | with_reducible rfl)); simp only [Act.put, List.setIfInBounds_toArray, List.set_cons_zero, List.set_cons_succ]); (refine take_op (i := 11) (v := ?_) rfl (by kernel_rfl) (by kernel_rfl) (by kernel_rfl) (fun _ _ _ h => h) (by rfl) ?_ hHeld ?_; rotate_left; (· (intro wS hSw; (try dsimp only at hSw); go_simp; first | done | with_reducible rfl)); simp only [Act.put, List.setIfInBounds_toArray, List.set_cons_zero, List.set_cons_succ]); (refine take_op (i := 12) (v := ?_) rfl (by kernel_rfl) (by kernel_rfl) (by kernel_rfl) (fun _ _ _ h => h) (by rfl) ?_ hHeld ?_; rotate_left; (· (intro wS hSw; (try dsimp only at hSw); go_simp; first | done | with_reducible rfl)); simp only [Act.put, List.setIfInBounds_toArray, List.set_cons_zero, List.set_cons_succ]); (refine take_op (i := 13) (v := ?_) rfl (by kernel_rfl) (by kernel_rfl) (by kernel_rfl) (fun _ _ _ h => h) (by rfl) ?_ hHeld ?_; rotate_left; (· (intro wS hSw; (try dsimp only at hSw); go_simp; first | done | with_reducible rfl)); simp only [Act.put, List.setIfInBounds_toArray, List.set_cons_zero, List.set_cons_succ]); (refine take_op (i := 14) (v := ?_) rfl (by kernel_rfl) (by kernel_rfl) (by kernel_rfl) (fun _ _ _ h => h) (by rfl) ?_ hHeld ?_; rotate_left; (· (intro wS hSw; (try dsimp only at hSw); go_simp; first | done | with_reducible rfl)); simp only [Act.put, List.setIfInBounds_toArray, List.set_cons_zero, List.set_cons_succ]); (refine take_op (i := 15) (v := ?_) rfl (by kernel_rfl) (by kernel_rfl) (by kernel_rfl) (fun _ _ _ h => h) (by rfl) ?_ hHeld ?_; rotate_left; (· (intro wS hSw; (try dsimp only at hSw); go_simp; first | done | with_reducible rfl)); simp only [Act.put, List.setIfInBounds_toArray, List.set_cons_zero, List.set_cons_succ]); (refine take_op (i := 16) (v := ?_) rfl (by kernel_rfl) (by kernel_rfl) (by kernel_rfl) (fun _ _ _ h => h) (by rfl) ?_ hHeld ?_; rotate_left; (· (intro wS hSw; (try dsimp only at hSw); go_simp; first | done | with_reducible rfl)); simp only [Act.put, List.setIfInBounds_toArray, List.set_cons_zero, List.set_cons_succ])
        (refine call_op (i := 17) rfl (by kernel_rfl) (by rfl) (fun K hK => ?_); go_simp; (go_at_call 14; (with_reducible refine (hsm _ P2.ids).mono ?_); rintro e w23 ⟨rfl, hb'⟩; replace P2 := P2.keep hb'; replace Db := Blk.keep Db hb'; replace Wb := Blk.keep Wb hb'; clear hb'); refine hK.out _ _ ⟨Db.cell, P2.rb.cell, Wb.cell, P2.cb.cell, P2.ab.cell⟩ (fun hHeld2 => ?_); clear hK K hHeld; have hHeld := hHeld2; clear hHeld2; (try simp only [Act.put, List.setIfInBounds_toArray, List.set_cons_zero, List.set_cons_succ]))
        (refine take_op (i := 18) (v := ?_) rfl (by kernel_rfl) (by kernel_rfl) (by kernel_rfl) (fun _ _ _ h => h) (by rfl) ?_ hHeld ?_; rotate_left; (· (intro wS hSw; (try dsimp only at hSw); go_simp; first | done | with_reducible rfl)); simp only [Act.put, List.setIfInBounds_toArray, List.set_cons_zero, List.set_cons_succ]); (refine take_op (i := 19) (v := ?_) rfl (by kernel_rfl) (by kernel_rfl) (by kernel_rfl) (fun _ _ _ h => h) (by rfl) ?_ hHeld ?_; rotate_left; (· (intro wS hSw; (try dsimp only at hSw); go_simp; first | done | with_reducible rfl)); simp only [Act.put, List.setIfInBounds_toArray, List.set_cons_zero, List.set_cons_succ])
        (refine call_op (i := 20) rfl (by kernel_rfl) (by rfl) (fun K hK => ?_); go_simp; (go_at_call 11; (with_reducible refine (AW.out _ P2.hb).mono ?_); rintro e w24 ⟨rfl, hb'⟩; replace P2 := P2.keep hb'; replace Db := Blk.keep Db hb'; replace Wb := Blk.keep Wb hb'; clear hb'); refine hK.out _ _ ⟨Db.cell, P2.rb.cell, Wb.cell, P2.cb.cell, P2.ab.cell⟩ (fun hHeld2 => ?_); clear hK K hHeld; have hHeld := hHeld2; clear hHeld2; (try simp only [Act.put, List.setIfInBounds_toArray, List.set_cons_zero, List.set_cons_succ]))
        (refine take_op (i := 21) (v := ?_) rfl (by kernel_rfl) (by kernel_rfl) (by kernel_rfl) (fun _ _ _ h => h) (by rfl) ?_ hHeld ?_; rotate_left; (· (intro wS hSw; (try dsimp only at hSw); go_simp; first | done | with_reducible rfl)); simp only [Act.put, List.setIfInBounds_toArray, List.set_cons_zero, List.set_cons_succ]); (refine take_op (i := 22) (v := ?_) rfl (by kernel_rfl) (by kernel_rfl) (by kernel_rfl) (fun _ _ _ h => h) (by rfl) ?_ hHeld ?_; rotate_left; (· (intro wS hSw; (try dsimp only at hSw); go_simp; first | done | with_reducible rfl)); simp only [Act.put, List.setIfInBounds_toArray, List.set_cons_zero, List.set_cons_succ])
        (refine wpAnyH_done (by kernel_rfl) ?_ _)
        go_wp2_with fail
        go_ret
        exact ⟨rfl, P2.hb⟩
      · rw [show wantOf 2 = 2 from rfl] at Hd3
        go_upto_region 18 with (go_at_call 13; (with_reducible refine (Hd3.out _ P2.hb S2).mono ?_); rintro e w20 ⟨rfl, hb'⟩; have hbd := below_one (w := w20) (.cells #[.int .i64 2, .int .i64 c.kind, .int .i64 c.client, .int .i64 c.seq, .string c.key, .string c.val, .int .i64 c.rev, .slice A m cap, .int .i64 q, .int .i64 t] 42); have Pn := (P2.keep hb').keep hbd; have Db : Blk (w20.alloc (.cells #[.int .i64 2, .int .i64 c.kind, .int .i64 c.client, .int .i64 c.seq, .string c.key, .string c.val, .int .i64 c.rev, .slice A m cap, .int .i64 q, .int .i64 t] 42)) w20.heap.size 42 #[.int .i64 2, .int .i64 c.kind, .int .i64 c.client, .int .i64 c.seq, .string c.key, .string c.val, .int .i64 c.rev, .slice A m cap, .int .i64 q, .int .i64 t] := Blk.new _ _ _; clear P2 S2 ibc hb' hbd; have P2 := Pn; clear Pn; have ibc := True.intro)
        revert P2 Db
        generalize hgd : w20.heap.size = gd
        generalize World.alloc w20 _ = w21
        intro Db P2
        clear hgd ibc Hd3
        go_upto_region 19 with fail
        have hbw := below_one (w := w21) (.cells #[.int .i64 0, .int .i64 3, .int .i64 2, .int .i64 1] 48)
        have Wb : Blk (w21.alloc (.cells #[.int .i64 0, .int .i64 3, .int .i64 2, .int .i64 1] 48)) w21.heap.size 48 #[.int .i64 0, .int .i64 3, .int .i64 2, .int .i64 1] := Blk.new _ _ _
        replace Wb := Blk.keep Wb (Below.refl _ _).drew
        replace P2 := (P2.keep hbw).keep (Below.refl _ _).drew
        replace Db := Blk.keep (Blk.keep Db hbw) (Below.refl _ _).drew
        clear hbw
        (refine wp_region_held_drew (S := (S5 gd gr w21.heap.size (w.heap.size + 1) (w.heap.size + 1 + 1) #[.int .i64 2, .int .i64 c.kind, .int .i64 c.client, .int .i64 c.seq, .string c.key, .string c.val, .int .i64 c.rev, .slice A m cap, .int .i64 q, .int .i64 t] #[.int .i64 r.i, .int .i64 r.n, .int .i64 r.st, .int .i64 r.br, .int .i64 r.bb, .int .i64 r.tr, .int .i64 r.tb, .int .i64 r.k, .int .i64 r.c, .int .i64 r.q, .string r.y, .string r.x, .int .i64 r.r, .slice r.A r.m r.cap, .int .i64 r.sq, .int .i64 r.tg] #[.int .i64 0, .int .i64 3, .int .i64 2, .int .i64 1] #[.int .i64 c.kind, .int .i64 c.client, .int .i64 c.seq, .string c.key, .string c.val, .int .i64 c.rev] #[.slice A m cap, .int .i64 q, .int .i64 t])) (by kernel_rfl) ?_ (fun hHeld => ?_); (· exact ⟨Db.cell, P2.rb.cell, Wb.cell, P2.cb.cell, P2.ab.cell⟩))
        (refine take_op (i := 0) (v := ?_) rfl (by kernel_rfl) (by kernel_rfl) (by kernel_rfl) (fun _ _ _ h => h) (by rfl) ?_ hHeld ?_; rotate_left; (· (intro wS hSw; (try dsimp only at hSw); go_simp; first | done | with_reducible rfl)); simp only [Act.put, List.setIfInBounds_toArray, List.set_cons_zero, List.set_cons_succ]); (refine take_op (i := 1) (v := ?_) rfl (by kernel_rfl) (by kernel_rfl) (by kernel_rfl) (fun _ _ _ h => h) (by rfl) ?_ hHeld ?_; rotate_left; (· (intro wS hSw; (try dsimp only at hSw); go_simp; first | done | with_reducible rfl)); simp only [Act.put, List.setIfInBounds_toArray, List.set_cons_zero, List.set_cons_succ]); (refine take_op (i := 2) (v := ?_) rfl (by kernel_rfl) (by kernel_rfl) (by kernel_rfl) (fun _ _ _ h => h) (by rfl) ?_ hHeld ?_; rotate_left; (· (intro wS hSw; (try dsimp only at hSw); go_simp; first | done | with_reducible rfl)); simp only [Act.put, List.setIfInBounds_toArray, List.set_cons_zero, List.set_cons_succ]); (refine take_op (i := 3) (v := ?_) rfl (by kernel_rfl) (by kernel_rfl) (by kernel_rfl) (fun _ _ _ h => h) (by rfl) ?_ hHeld ?_; rotate_left; (· (intro wS hSw; (try dsimp only at hSw); go_simp; first | done | with_reducible rfl)); simp only [Act.put, List.setIfInBounds_toArray, List.set_cons_zero, List.set_cons_succ]); (refine take_op (i := 4) (v := ?_) rfl (by kernel_rfl) (by kernel_rfl) (by kernel_rfl) (fun _ _ _ h => h) (by rfl) ?_ hHeld ?_; rotate_left; (· (intro wS hSw; (try dsimp only at hSw); go_simp; first | done | with_reducible rfl)); simp only [Act.put, List.setIfInBounds_toArray, List.set_cons_zero, List.set_cons_succ]); (refine take_op (i := 5) (v := ?_) rfl (by kernel_rfl) (by kernel_rfl) (by kernel_rfl) (fun _ _ _ h => h) (by rfl) ?_ hHeld ?_; rotate_left; (· (intro wS hSw; (try dsimp only at hSw); go_simp; first | done | with_reducible rfl)); simp only [Act.put, List.setIfInBounds_toArray, List.set_cons_zero, List.set_cons_succ]); (refine take_op (i := 6) (v := ?_) rfl (by kernel_rfl) (by kernel_rfl) (by kernel_rfl) (fun _ _ _ h => h) (by rfl) ?_ hHeld ?_; rotate_left; (· (intro wS hSw; (try dsimp only at hSw); go_simp; first | done | with_reducible rfl)); simp only [Act.put, List.setIfInBounds_toArray, List.set_cons_zero, List.set_cons_succ]); (refine take_op (i := 7) (v := ?_) rfl (by kernel_rfl) (by kernel_rfl) (by kernel_rfl) (fun _ _ _ h => h) (by rfl) ?_ hHeld ?_; rotate_left; (· (intro wS hSw; (try dsimp only at hSw); go_simp; first | done | with_reducible rfl)); simp only [Act.put, List.setIfInBounds_toArray, List.set_cons_zero, List.set_cons_succ]); (refine take_op (i := 8) (v := ?_) rfl (by kernel_rfl) (by kernel_rfl) (by kernel_rfl) (fun _ _ _ h => h) (by rfl) ?_ hHeld ?_; rotate_left; (· (intro wS hSw; (try dsimp only at hSw); go_simp; first | done | with_reducible rfl)); simp only [Act.put, List.setIfInBounds_toArray, List.set_cons_zero, List.set_cons_succ]); (refine take_op (i := 9) (v := ?_) rfl (by kernel_rfl) (by kernel_rfl) (by kernel_rfl) (fun _ _ _ h => h) (by rfl) ?_ hHeld ?_; rotate_left; (· (intro wS hSw; (try dsimp only at hSw); go_simp; first | done | with_reducible rfl)); simp only [Act.put, List.setIfInBounds_toArray, List.set_cons_zero, List.set_cons_succ]); (refine take_op (i := 10) (v := ?_) rfl (by kernel_rfl) (by kernel_rfl) (by kernel_rfl) (fun _ _ _ h => h) (by rfl) ?_ hHeld ?_; rotate_left; (· (intro wS hSw; (try dsimp only at hSw); go_simp; first | done | with_reducible rfl)); simp only [Act.put, List.setIfInBounds_toArray, List.set_cons_zero, List.set_cons_succ]); (refine take_op (i := 11) (v := ?_) rfl (by kernel_rfl) (by kernel_rfl) (by kernel_rfl) (fun _ _ _ h => h) (by rfl) ?_ hHeld ?_; rotate_left; (· (intro wS hSw; (try dsimp only at hSw); go_simp; first | done | with_reducible rfl)); simp only [Act.put, List.setIfInBounds_toArray, List.set_cons_zero, List.set_cons_succ]); (refine take_op (i := 12) (v := ?_) rfl (by kernel_rfl) (by kernel_rfl) (by kernel_rfl) (fun _ _ _ h => h) (by rfl) ?_ hHeld ?_; rotate_left; (· (intro wS hSw; (try dsimp only at hSw); go_simp; first | done | with_reducible rfl)); simp only [Act.put, List.setIfInBounds_toArray, List.set_cons_zero, List.set_cons_succ]); (refine take_op (i := 13) (v := ?_) rfl (by kernel_rfl) (by kernel_rfl) (by kernel_rfl) (fun _ _ _ h => h) (by rfl) ?_ hHeld ?_; rotate_left; (· (intro wS hSw; (try dsimp only at hSw); go_simp; first | done | with_reducible rfl)); simp only [Act.put, List.setIfInBounds_toArray, List.set_cons_zero, List.set_cons_succ]); (refine take_op (i := 14) (v := ?_) rfl (by kernel_rfl) (by kernel_rfl) (by kernel_rfl) (fun _ _ _ h => h) (by rfl) ?_ hHeld ?_; rotate_left; (· (intro wS hSw; (try dsimp only at hSw); go_simp; first | done | with_reducible rfl)); simp only [Act.put, List.setIfInBounds_toArray, List.set_cons_zero, List.set_cons_succ]); (refine take_op (i := 15) (v := ?_) rfl (by kernel_rfl) (by kernel_rfl) (by kernel_rfl) (fun _ _ _ h => h) (by rfl) ?_ hHeld ?_; rotate_left; (· (intro wS hSw; (try dsimp only at hSw); go_simp; first | done | with_reducible rfl)); simp only [Act.put, List.setIfInBounds_toArray, List.set_cons_zero, List.set_cons_succ]); (refine take_op (i := 16) (v := ?_) rfl (by kernel_rfl) (by kernel_rfl) (by kernel_rfl) (fun _ _ _ h => h) (by rfl) ?_ hHeld ?_; rotate_left; (· (intro wS hSw; (try dsimp only at hSw); go_simp; first | done | with_reducible rfl)); simp only [Act.put, List.setIfInBounds_toArray, List.set_cons_zero, List.set_cons_succ])
        (refine call_op (i := 17) rfl (by kernel_rfl) (by rfl) (fun K hK => ?_); go_simp; (go_at_call 14; (with_reducible refine (hsm _ P2.ids).mono ?_); rintro e w23 ⟨rfl, hb'⟩; replace P2 := P2.keep hb'; replace Db := Blk.keep Db hb'; replace Wb := Blk.keep Wb hb'; clear hb'); refine hK.out _ _ ⟨Db.cell, P2.rb.cell, Wb.cell, P2.cb.cell, P2.ab.cell⟩ (fun hHeld2 => ?_); clear hK K hHeld; have hHeld := hHeld2; clear hHeld2; (try simp only [Act.put, List.setIfInBounds_toArray, List.set_cons_zero, List.set_cons_succ]))
        (refine take_op (i := 18) (v := ?_) rfl (by kernel_rfl) (by kernel_rfl) (by kernel_rfl) (fun _ _ _ h => h) (by rfl) ?_ hHeld ?_; rotate_left; (· (intro wS hSw; (try dsimp only at hSw); go_simp; first | done | with_reducible rfl)); simp only [Act.put, List.setIfInBounds_toArray, List.set_cons_zero, List.set_cons_succ]); (refine take_op (i := 19) (v := ?_) rfl (by kernel_rfl) (by kernel_rfl) (by kernel_rfl) (fun _ _ _ h => h) (by rfl) ?_ hHeld ?_; rotate_left; (· (intro wS hSw; (try dsimp only at hSw); go_simp; first | done | with_reducible rfl)); simp only [Act.put, List.setIfInBounds_toArray, List.set_cons_zero, List.set_cons_succ])
        (refine call_op (i := 20) rfl (by kernel_rfl) (by rfl) (fun K hK => ?_); go_simp; (go_at_call 11; (with_reducible refine (AW.out _ P2.hb).mono ?_); rintro e w24 ⟨rfl, hb'⟩; replace P2 := P2.keep hb'; replace Db := Blk.keep Db hb'; replace Wb := Blk.keep Wb hb'; clear hb'); refine hK.out _ _ ⟨Db.cell, P2.rb.cell, Wb.cell, P2.cb.cell, P2.ab.cell⟩ (fun hHeld2 => ?_); clear hK K hHeld; have hHeld := hHeld2; clear hHeld2; (try simp only [Act.put, List.setIfInBounds_toArray, List.set_cons_zero, List.set_cons_succ]))
        (refine take_op (i := 21) (v := ?_) rfl (by kernel_rfl) (by kernel_rfl) (by kernel_rfl) (fun _ _ _ h => h) (by rfl) ?_ hHeld ?_; rotate_left; (· (intro wS hSw; (try dsimp only at hSw); go_simp; first | done | with_reducible rfl)); simp only [Act.put, List.setIfInBounds_toArray, List.set_cons_zero, List.set_cons_succ]); (refine take_op (i := 22) (v := ?_) rfl (by kernel_rfl) (by kernel_rfl) (by kernel_rfl) (fun _ _ _ h => h) (by rfl) ?_ hHeld ?_; rotate_left; (· (intro wS hSw; (try dsimp only at hSw); go_simp; first | done | with_reducible rfl)); simp only [Act.put, List.setIfInBounds_toArray, List.set_cons_zero, List.set_cons_succ])
        (refine wpAnyH_done (by kernel_rfl) ?_ _)
        go_wp2_with fail
        go_ret
        exact ⟨rfl, P2.hb⟩
      · rw [show wantOf 3 = 1 from rfl] at Hd3
        go_upto_region 18 with (go_at_call 13; (with_reducible refine (Hd3.out _ P2.hb S2).mono ?_); rintro e w20 ⟨rfl, hb'⟩; have hbd := below_one (w := w20) (.cells #[.int .i64 1, .int .i64 c.kind, .int .i64 c.client, .int .i64 c.seq, .string c.key, .string c.val, .int .i64 c.rev, .slice A m cap, .int .i64 q, .int .i64 t] 42); have Pn := (P2.keep hb').keep hbd; have Db : Blk (w20.alloc (.cells #[.int .i64 1, .int .i64 c.kind, .int .i64 c.client, .int .i64 c.seq, .string c.key, .string c.val, .int .i64 c.rev, .slice A m cap, .int .i64 q, .int .i64 t] 42)) w20.heap.size 42 #[.int .i64 1, .int .i64 c.kind, .int .i64 c.client, .int .i64 c.seq, .string c.key, .string c.val, .int .i64 c.rev, .slice A m cap, .int .i64 q, .int .i64 t] := Blk.new _ _ _; clear P2 S2 ibc hb' hbd; have P2 := Pn; clear Pn; have ibc := True.intro)
        revert P2 Db
        generalize hgd : w20.heap.size = gd
        generalize World.alloc w20 _ = w21
        intro Db P2
        clear hgd ibc Hd3
        go_upto_region 19 with fail
        have hbw := below_one (w := w21) (.cells #[.int .i64 0, .int .i64 3, .int .i64 2, .int .i64 1] 48)
        have Wb : Blk (w21.alloc (.cells #[.int .i64 0, .int .i64 3, .int .i64 2, .int .i64 1] 48)) w21.heap.size 48 #[.int .i64 0, .int .i64 3, .int .i64 2, .int .i64 1] := Blk.new _ _ _
        replace Wb := Blk.keep Wb (Below.refl _ _).drew
        replace P2 := (P2.keep hbw).keep (Below.refl _ _).drew
        replace Db := Blk.keep (Blk.keep Db hbw) (Below.refl _ _).drew
        clear hbw
        (refine wp_region_held_drew (S := (S5 gd gr w21.heap.size (w.heap.size + 1) (w.heap.size + 1 + 1) #[.int .i64 1, .int .i64 c.kind, .int .i64 c.client, .int .i64 c.seq, .string c.key, .string c.val, .int .i64 c.rev, .slice A m cap, .int .i64 q, .int .i64 t] #[.int .i64 r.i, .int .i64 r.n, .int .i64 r.st, .int .i64 r.br, .int .i64 r.bb, .int .i64 r.tr, .int .i64 r.tb, .int .i64 r.k, .int .i64 r.c, .int .i64 r.q, .string r.y, .string r.x, .int .i64 r.r, .slice r.A r.m r.cap, .int .i64 r.sq, .int .i64 r.tg] #[.int .i64 0, .int .i64 3, .int .i64 2, .int .i64 1] #[.int .i64 c.kind, .int .i64 c.client, .int .i64 c.seq, .string c.key, .string c.val, .int .i64 c.rev] #[.slice A m cap, .int .i64 q, .int .i64 t])) (by kernel_rfl) ?_ (fun hHeld => ?_); (· exact ⟨Db.cell, P2.rb.cell, Wb.cell, P2.cb.cell, P2.ab.cell⟩))
        (refine take_op (i := 0) (v := ?_) rfl (by kernel_rfl) (by kernel_rfl) (by kernel_rfl) (fun _ _ _ h => h) (by rfl) ?_ hHeld ?_; rotate_left; (· (intro wS hSw; (try dsimp only at hSw); go_simp; first | done | with_reducible rfl)); simp only [Act.put, List.setIfInBounds_toArray, List.set_cons_zero, List.set_cons_succ]); (refine take_op (i := 1) (v := ?_) rfl (by kernel_rfl) (by kernel_rfl) (by kernel_rfl) (fun _ _ _ h => h) (by rfl) ?_ hHeld ?_; rotate_left; (· (intro wS hSw; (try dsimp only at hSw); go_simp; first | done | with_reducible rfl)); simp only [Act.put, List.setIfInBounds_toArray, List.set_cons_zero, List.set_cons_succ]); (refine take_op (i := 2) (v := ?_) rfl (by kernel_rfl) (by kernel_rfl) (by kernel_rfl) (fun _ _ _ h => h) (by rfl) ?_ hHeld ?_; rotate_left; (· (intro wS hSw; (try dsimp only at hSw); go_simp; first | done | with_reducible rfl)); simp only [Act.put, List.setIfInBounds_toArray, List.set_cons_zero, List.set_cons_succ]); (refine take_op (i := 3) (v := ?_) rfl (by kernel_rfl) (by kernel_rfl) (by kernel_rfl) (fun _ _ _ h => h) (by rfl) ?_ hHeld ?_; rotate_left; (· (intro wS hSw; (try dsimp only at hSw); go_simp; first | done | with_reducible rfl)); simp only [Act.put, List.setIfInBounds_toArray, List.set_cons_zero, List.set_cons_succ]); (refine take_op (i := 4) (v := ?_) rfl (by kernel_rfl) (by kernel_rfl) (by kernel_rfl) (fun _ _ _ h => h) (by rfl) ?_ hHeld ?_; rotate_left; (· (intro wS hSw; (try dsimp only at hSw); go_simp; first | done | with_reducible rfl)); simp only [Act.put, List.setIfInBounds_toArray, List.set_cons_zero, List.set_cons_succ]); (refine take_op (i := 5) (v := ?_) rfl (by kernel_rfl) (by kernel_rfl) (by kernel_rfl) (fun _ _ _ h => h) (by rfl) ?_ hHeld ?_; rotate_left; (· (intro wS hSw; (try dsimp only at hSw); go_simp; first | done | with_reducible rfl)); simp only [Act.put, List.setIfInBounds_toArray, List.set_cons_zero, List.set_cons_succ]); (refine take_op (i := 6) (v := ?_) rfl (by kernel_rfl) (by kernel_rfl) (by kernel_rfl) (fun _ _ _ h => h) (by rfl) ?_ hHeld ?_; rotate_left; (· (intro wS hSw; (try dsimp only at hSw); go_simp; first | done | with_reducible rfl)); simp only [Act.put, List.setIfInBounds_toArray, List.set_cons_zero, List.set_cons_succ]); (refine take_op (i := 7) (v := ?_) rfl (by kernel_rfl) (by kernel_rfl) (by kernel_rfl) (fun _ _ _ h => h) (by rfl) ?_ hHeld ?_; rotate_left; (· (intro wS hSw; (try dsimp only at hSw); go_simp; first | done | with_reducible rfl)); simp only [Act.put, List.setIfInBounds_toArray, List.set_cons_zero, List.set_cons_succ]); (refine take_op (i := 8) (v := ?_) rfl (by kernel_rfl) (by kernel_rfl) (by kernel_rfl) (fun _ _ _ h => h) (by rfl) ?_ hHeld ?_; rotate_left; (· (intro wS hSw; (try dsimp only at hSw); go_simp; first | done | with_reducible rfl)); simp only [Act.put, List.setIfInBounds_toArray, List.set_cons_zero, List.set_cons_succ]); (refine take_op (i := 9) (v := ?_) rfl (by kernel_rfl) (by kernel_rfl) (by kernel_rfl) (fun _ _ _ h => h) (by rfl) ?_ hHeld ?_; rotate_left; (· (intro wS hSw; (try dsimp only at hSw); go_simp; first | done | with_reducible rfl)); simp only [Act.put, List.setIfInBounds_toArray, List.set_cons_zero, List.set_cons_succ]); (refine take_op (i := 10) (v := ?_) rfl (by kernel_rfl) (by kernel_rfl) (by kernel_rfl) (fun _ _ _ h => h) (by rfl) ?_ hHeld ?_; rotate_left; (· (intro wS hSw; (try dsimp only at hSw); go_simp; first | done | with_reducible rfl)); simp only [Act.put, List.setIfInBounds_toArray, List.set_cons_zero, List.set_cons_succ]); (refine take_op (i := 11) (v := ?_) rfl (by kernel_rfl) (by kernel_rfl) (by kernel_rfl) (fun _ _ _ h => h) (by rfl) ?_ hHeld ?_; rotate_left; (· (intro wS hSw; (try dsimp only at hSw); go_simp; first | done | with_reducible rfl)); simp only [Act.put, List.setIfInBounds_toArray, List.set_cons_zero, List.set_cons_succ]); (refine take_op (i := 12) (v := ?_) rfl (by kernel_rfl) (by kernel_rfl) (by kernel_rfl) (fun _ _ _ h => h) (by rfl) ?_ hHeld ?_; rotate_left; (· (intro wS hSw; (try dsimp only at hSw); go_simp; first | done | with_reducible rfl)); simp only [Act.put, List.setIfInBounds_toArray, List.set_cons_zero, List.set_cons_succ]); (refine take_op (i := 13) (v := ?_) rfl (by kernel_rfl) (by kernel_rfl) (by kernel_rfl) (fun _ _ _ h => h) (by rfl) ?_ hHeld ?_; rotate_left; (· (intro wS hSw; (try dsimp only at hSw); go_simp; first | done | with_reducible rfl)); simp only [Act.put, List.setIfInBounds_toArray, List.set_cons_zero, List.set_cons_succ]); (refine take_op (i := 14) (v := ?_) rfl (by kernel_rfl) (by kernel_rfl) (by kernel_rfl) (fun _ _ _ h => h) (by rfl) ?_ hHeld ?_; rotate_left; (· (intro wS hSw; (try dsimp only at hSw); go_simp; first | done | with_reducible rfl)); simp only [Act.put, List.setIfInBounds_toArray, List.set_cons_zero, List.set_cons_succ]); (refine take_op (i := 15) (v := ?_) rfl (by kernel_rfl) (by kernel_rfl) (by kernel_rfl) (fun _ _ _ h => h) (by rfl) ?_ hHeld ?_; rotate_left; (· (intro wS hSw; (try dsimp only at hSw); go_simp; first | done | with_reducible rfl)); simp only [Act.put, List.setIfInBounds_toArray, List.set_cons_zero, List.set_cons_succ]); (refine take_op (i := 16) (v := ?_) rfl (by kernel_rfl) (by kernel_rfl) (by kernel_rfl) (fun _ _ _ h => h) (by rfl) ?_ hHeld ?_; rotate_left; (· (intro wS hSw; (try dsimp only at hSw); go_simp; first | done | with_reducible rfl)); simp only [Act.put, List.setIfInBounds_toArray, List.set_cons_zero, List.set_cons_succ])
        (refine call_op (i := 17) rfl (by kernel_rfl) (by rfl) (fun K hK => ?_); go_simp; (go_at_call 14; (with_reducible refine (hsm _ P2.ids).mono ?_); rintro e w23 ⟨rfl, hb'⟩; replace P2 := P2.keep hb'; replace Db := Blk.keep Db hb'; replace Wb := Blk.keep Wb hb'; clear hb'); refine hK.out _ _ ⟨Db.cell, P2.rb.cell, Wb.cell, P2.cb.cell, P2.ab.cell⟩ (fun hHeld2 => ?_); clear hK K hHeld; have hHeld := hHeld2; clear hHeld2; (try simp only [Act.put, List.setIfInBounds_toArray, List.set_cons_zero, List.set_cons_succ]))
        (refine take_op (i := 18) (v := ?_) rfl (by kernel_rfl) (by kernel_rfl) (by kernel_rfl) (fun _ _ _ h => h) (by rfl) ?_ hHeld ?_; rotate_left; (· (intro wS hSw; (try dsimp only at hSw); go_simp; first | done | with_reducible rfl)); simp only [Act.put, List.setIfInBounds_toArray, List.set_cons_zero, List.set_cons_succ]); (refine take_op (i := 19) (v := ?_) rfl (by kernel_rfl) (by kernel_rfl) (by kernel_rfl) (fun _ _ _ h => h) (by rfl) ?_ hHeld ?_; rotate_left; (· (intro wS hSw; (try dsimp only at hSw); go_simp; first | done | with_reducible rfl)); simp only [Act.put, List.setIfInBounds_toArray, List.set_cons_zero, List.set_cons_succ])
        (refine call_op (i := 20) rfl (by kernel_rfl) (by rfl) (fun K hK => ?_); go_simp; (go_at_call 11; (with_reducible refine (AW.out _ P2.hb).mono ?_); rintro e w24 ⟨rfl, hb'⟩; replace P2 := P2.keep hb'; replace Db := Blk.keep Db hb'; replace Wb := Blk.keep Wb hb'; clear hb'); refine hK.out _ _ ⟨Db.cell, P2.rb.cell, Wb.cell, P2.cb.cell, P2.ab.cell⟩ (fun hHeld2 => ?_); clear hK K hHeld; have hHeld := hHeld2; clear hHeld2; (try simp only [Act.put, List.setIfInBounds_toArray, List.set_cons_zero, List.set_cons_succ]))
        (refine take_op (i := 21) (v := ?_) rfl (by kernel_rfl) (by kernel_rfl) (by kernel_rfl) (fun _ _ _ h => h) (by rfl) ?_ hHeld ?_; rotate_left; (· (intro wS hSw; (try dsimp only at hSw); go_simp; first | done | with_reducible rfl)); simp only [Act.put, List.setIfInBounds_toArray, List.set_cons_zero, List.set_cons_succ]); (refine take_op (i := 22) (v := ?_) rfl (by kernel_rfl) (by kernel_rfl) (by kernel_rfl) (fun _ _ _ h => h) (by rfl) ?_ hHeld ?_; rotate_left; (· (intro wS hSw; (try dsimp only at hSw); go_simp; first | done | with_reducible rfl)); simp only [Act.put, List.setIfInBounds_toArray, List.set_cons_zero, List.set_cons_succ])
        (refine wpAnyH_done (by kernel_rfl) ?_ _)
        go_wp2_with fail
        go_ret
        exact ⟨rfl, P2.hb⟩
end Go.Proofs.YtmgiholmhhjpaaaDoor
