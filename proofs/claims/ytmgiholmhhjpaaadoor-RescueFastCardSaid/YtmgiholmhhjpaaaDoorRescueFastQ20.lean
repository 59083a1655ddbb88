/- The walk of rescue.Decide. -/
import Derived.Test.YtmgiholmhhjpaaaDoorRescueFastQ19
import Derived.LoopN
import Derived.WalkKit
import Derived.WalkSpells
import Derived.WalkLawsBesides
import Derived.Deep.RegionHeld3
import Derived.Deep.DrawnRows
import Derived.Deep.DeepCutAuto
import Derived.Deep.DeepFit
import Derived.Lib.Hide
import Derived.BigQuiet
import Derived.Deep.QuietTactic
namespace Go.Proofs.YtmgiholmhhjpaaaDoor
open Go.RowKit
set_option linter.unusedVariables false
set_option linter.unusedSimpArgs false
set_option maxRecDepth 20000
attribute [local go_sem ↓] Go.wp_at_zero Go.wp_at_succ
attribute [local go_sem] World.cell?_alloc_some frozen_alloc_some
attribute [local go_sem ↓ high] loadVar_rec storeVar_rec loadVar_seen storeVar_seen loadVar_dec storeVar_dec
attribute [local go_sem] rec_store_new seen_store_new dec_store_new

structure DS (w : World) (ir inn : Int) (A' : Option Addr) (m : Nat) (ss : List SeenT) (W : World) : Prop where
  hb : Below w.heap.size w W
  id : Blk W w.heap.size 28 #[.int .i64 ir, .int .i64 inn]
  d : Blk W (w.heap.size + 1) 42 #[.int .i64 0, .int .i64 0, .int .i64 0, .int .i64 0, .string ⟨#[]⟩, .string ⟨#[]⟩, .int .i64 0, .slice none 0 0, .int .i64 0, .int .i64 0]
  sn : SeensAt W A' m ss
theorem DS.keep {w W W' : World} {ir inn : Int} {A' : Option Addr} {m : Nat} {ss : List SeenT} (h : DS w ir inn A' m ss W) (hb : Below W.heap.size W W') : DS w ir inn A' m ss W' := ⟨below_call h.hb hb h.hb.size, h.id.keep hb, h.d.keep hb, h.sn.keep hb⟩
/-- The same, with the row of functions. -/
structure DF (w : World) (ir inn : Int) (A' : Option Addr) (m : Nat) (ss : List SeenT) (gf : Nat) (W : World) : Prop where
  s : DS w ir inn A' m ss W
  f : Blk W gf 69 #[.func (.func 34) #[] #[], .func (.func 35) #[] #[], .func (.func 32) #[] #[.pointer (some ⟨w.heap.size, 0, none⟩)], .func (.func 36) #[] #[]]
theorem DF.keep {w W W' : World} {ir inn : Int} {A' : Option Addr} {m : Nat} {ss : List SeenT} {gf : Nat} (h : DF w ir inn A' m ss gf W) (hb : Below W.heap.size W W') : DF w ir inn A' m ss gf W' := ⟨h.s.keep hb, h.f.keep hb⟩
set_option maxHeartbeats 8000000 in
theorem decide_core (n ir inn : Int) (A : Option Addr) (m c : Nat) (ss : List SeenT) (w : World) (h : SeensAt w A m ss) (hg : Good n ir inn ss) (hT : Tabs w) (hm : m ≤ 1000) (h1 : 1 ≤ n) (hn : n ≤ 1000) (hq : ¬ (m : Int) < quo n)
    (d1 d2 d3 d4 : Int) (r1 r2 r3 r4 : RecT) (b1 b2 b3 b4 : Bool)
    (c1 : ∀ (A' : Option Addr) (c' : Nat), AskC (fun W => SeensAt W A' m ss) 34 #[.slice A' m c'] d1 r1 b1)
    (c2 : ∀ (A' : Option Addr) (c' : Nat), AskC (fun W => SeensAt W A' m ss) 35 #[.slice A' m c'] d2 r2 b2)
    (c3 : ∀ (A' : Option Addr) (c' : Nat) (g : Nat), AskC (fun W => SeensAt W A' m ss ∧ Blk W g 28 #[.int .i64 ir, .int .i64 inn]) 32 #[.slice A' m c', .pointer (some ⟨g, 0, none⟩)] d3 r3 b3)
    (c4 : ∀ (A' : Option Addr) (c' : Nat), AskC (fun W => SeensAt W A' m ss) 36 #[.slice A' m c'] d4 r4 b4)
    (d : Int) (r : RecT) (hR : decF d r = if b1 then decF d1 r1 else if b2 then decF d2 r2 else if b3 then decF d3 r3 else if b4 then decF d4 r4 else decF 2 { zeroRec with sq := 1, tg := 1 }) :
    Calls Tryd.prog 13 #[.int .i64 n, .agg #[.int .i64 ir, .int .i64 inn], .slice A m c] w (Gives w (decF d r)) := by
  have hmf : ∀ (fn : Fn) (first cap : Array Value) (w : World), (Instr.makeFunc fn first cap).run Tryd.prog w = .ok (.func fn first cap) w := fun _ _ _ _ => rfl
  have hlt1 : ¬ n < 1 := by omega
  have hqu := fun W => quorum_any n W h1 hn
  have hcn := fun W (hb : Below w.heap.size w W) => counted_any n ir inn A m c ss W (h.keep hb) hg (hT.keep hb) hm hn
  have C1 := Lib.hid c1
  have C2 := Lib.hid c2
  have C3 := Lib.hid c3
  have C4 := Lib.hid c4
  have Hcn := Lib.hid hcn
  have HR := Lib.hid hR
  generalize quo n = Q at *
  clear c1 c2 c3 c4 hcn hR h hg hT
  have B0 : Blk ((w.alloc (.cells #[.int .i64 ir, .int .i64 inn] 28)).alloc (.cells #[.int .i64 0, .int .i64 0, .int .i64 0, .int .i64 0, .string ⟨#[]⟩, .string ⟨#[]⟩, .int .i64 0, .slice none 0 0, .int .i64 0, .int .i64 0] 42)) w.heap.size 28 #[.int .i64 ir, .int .i64 inn] := (Blk.new w _ _).alloc _
  have B1 : Blk ((w.alloc (.cells #[.int .i64 ir, .int .i64 inn] 28)).alloc (.cells #[.int .i64 0, .int .i64 0, .int .i64 0, .int .i64 0, .string ⟨#[]⟩, .string ⟨#[]⟩, .int .i64 0, .slice none 0 0, .int .i64 0, .int .i64 0] 42)) (w.heap.size + 1) 42 #[.int .i64 0, .int .i64 0, .int .i64 0, .int .i64 0, .string ⟨#[]⟩, .string ⟨#[]⟩, .int .i64 0, .slice none 0 0, .int .i64 0, .int .i64 0] := Blk.newAt (by simp)
  have k0 : Below w.heap.size w ((w.alloc (.cells #[.int .i64 ir, .int .i64 inn] 28)).alloc (.cells #[.int .i64 0, .int .i64 0, .int .i64 0, .int .i64 0, .string ⟨#[]⟩, .string ⟨#[]⟩, .int .i64 0, .slice none 0 0, .int .i64 0, .int .i64 0] 42)) := by ((repeat' first | with_reducible exact Below.refl _ _ | with_reducible assumption | with_reducible refine Below.alloc ?_ ?_ _ | with_reducible refine Below.setCell ?_ ?_ _ | with_reducible apply Below.drew | with_reducible apply below_drewN | with_reducible refine below_call ?_ (by with_reducible assumption) ?_) <;> (first | omega | (simp; done) | (simp; omega) | (simp at *; omega)))
  go_enter Tryd.func13, Tryd.ntmps13
  go_wp2_with (first | (go_at_call 31; (with_reducible refine (Hcn.out _ k0).mono ?_); rintro e w1 ⟨A', c', rfl, hS, hb1⟩; have P : DS w ir inn A' m ss w1 := ⟨below_call k0 hb1 k0.size, B0.keep hb1, B1.keep hb1, hS⟩; clear hS hb1 B0 B1 k0) | (go_at_call 12; refine (hqu _).mono ?_; rintro e w2 ⟨rfl, rfl⟩))
  have PF : DF w ir inn A' m ss w2.heap.size (w2.alloc (.cells #[.func (.func 34) #[] #[], .func (.func 35) #[] #[], .func (.func 32) #[] #[.pointer (some ⟨w.heap.size, 0, none⟩)], .func (.func 36) #[] #[]] 69)) := ⟨P.keep (below_one _), Blk.new _ _ _⟩
  clear P Hcn hqu
  revert PF
  generalize w2.heap.size = gf
  generalize w2.alloc _ = w3
  intro PF
  have Fc := PF.f.cell
  refine wp_loop_rounds 5 ?_
  rw [rounds_succ]
  cases b1
  case true =>
    go_wp2_with (go_at_call 34; (with_reducible refine (C1.out _ _ _ PF.s.sn).mono ?_); rintro e w' ⟨rfl, hb'⟩; have Pn := (PF.keep hb').keep (below_one (.cells #[.int .i64 d1, .int .i64 r1.k, .int .i64 r1.c, .int .i64 r1.q, .string r1.y, .string r1.x, .int .i64 r1.r, .slice r1.A r1.m r1.cap, .int .i64 r1.sq, .int .i64 r1.tg] 42)); have ld := dec_load (Blk.new w' 42 #[.int .i64 d1, .int .i64 r1.k, .int .i64 r1.c, .int .i64 r1.q, .string r1.y, .string r1.x, .int .i64 r1.r, .slice r1.A r1.m r1.cap, .int .i64 r1.sq, .int .i64 r1.tg]); clear PF Fc hb'; have PF := Pn; clear Pn; have sd := dec_store PF.s.d rfl d1 r1.k r1.c r1.q r1.y r1.x r1.r r1.A r1.m r1.cap r1.sq r1.tg; have Fc := PF.f.cell)
    refine bodyPost_ret (v := .agg #[.int .i64 d1, .int .i64 r1.k, .int .i64 r1.c, .int .i64 r1.q, .string r1.y, .string r1.x, .int .i64 r1.r, .slice r1.A r1.m r1.cap, .int .i64 r1.sq, .int .i64 r1.tg]) (results_dec rfl rfl (PF.s.d.decSet (cs' := #[.int .i64 d1, .int .i64 r1.k, .int .i64 r1.c, .int .i64 r1.q, .string r1.y, .string r1.x, .int .i64 r1.r, .slice r1.A r1.m r1.cap, .int .i64 r1.sq, .int .i64 r1.tg]) rfl)) rfl ?_
    exact ⟨by rw [HR.out]; rfl, below_decSet PF.s.hb (by omega) _⟩
  go_wp2_with (go_at_call 34; (with_reducible refine (C1.out _ _ _ PF.s.sn).mono ?_); rintro e w' ⟨rfl, hb'⟩; have Pn := (PF.keep hb').keep (below_one (.cells #[.int .i64 d1, .int .i64 r1.k, .int .i64 r1.c, .int .i64 r1.q, .string r1.y, .string r1.x, .int .i64 r1.r, .slice r1.A r1.m r1.cap, .int .i64 r1.sq, .int .i64 r1.tg] 42)); have ld := dec_load (Blk.new w' 42 #[.int .i64 d1, .int .i64 r1.k, .int .i64 r1.c, .int .i64 r1.q, .string r1.y, .string r1.x, .int .i64 r1.r, .slice r1.A r1.m r1.cap, .int .i64 r1.sq, .int .i64 r1.tg]); clear PF Fc hb'; have PF := Pn; clear Pn; have sd := dec_store PF.s.d rfl d1 r1.k r1.c r1.q r1.y r1.x r1.r r1.A r1.m r1.cap r1.sq r1.tg; have Fc := PF.f.cell)
  rw [rounds_succ]
  cases b2
  case true =>
    go_wp2_with (go_at_call 35; (with_reducible refine (C2.out _ _ _ PF.s.sn).mono ?_); rintro e w' ⟨rfl, hb'⟩; have Pn := (PF.keep hb').keep (below_one (.cells #[.int .i64 d2, .int .i64 r2.k, .int .i64 r2.c, .int .i64 r2.q, .string r2.y, .string r2.x, .int .i64 r2.r, .slice r2.A r2.m r2.cap, .int .i64 r2.sq, .int .i64 r2.tg] 42)); have ld := dec_load (Blk.new w' 42 #[.int .i64 d2, .int .i64 r2.k, .int .i64 r2.c, .int .i64 r2.q, .string r2.y, .string r2.x, .int .i64 r2.r, .slice r2.A r2.m r2.cap, .int .i64 r2.sq, .int .i64 r2.tg]); clear PF Fc hb'; have PF := Pn; clear Pn; have sd := dec_store PF.s.d rfl d2 r2.k r2.c r2.q r2.y r2.x r2.r r2.A r2.m r2.cap r2.sq r2.tg; have Fc := PF.f.cell)
    refine bodyPost_ret (v := .agg #[.int .i64 d2, .int .i64 r2.k, .int .i64 r2.c, .int .i64 r2.q, .string r2.y, .string r2.x, .int .i64 r2.r, .slice r2.A r2.m r2.cap, .int .i64 r2.sq, .int .i64 r2.tg]) (results_dec rfl rfl (PF.s.d.decSet (cs' := #[.int .i64 d2, .int .i64 r2.k, .int .i64 r2.c, .int .i64 r2.q, .string r2.y, .string r2.x, .int .i64 r2.r, .slice r2.A r2.m r2.cap, .int .i64 r2.sq, .int .i64 r2.tg]) rfl)) rfl ?_
    exact ⟨by rw [HR.out]; rfl, below_decSet PF.s.hb (by omega) _⟩
  go_wp2_with (go_at_call 35; (with_reducible refine (C2.out _ _ _ PF.s.sn).mono ?_); rintro e w' ⟨rfl, hb'⟩; have Pn := (PF.keep hb').keep (below_one (.cells #[.int .i64 d2, .int .i64 r2.k, .int .i64 r2.c, .int .i64 r2.q, .string r2.y, .string r2.x, .int .i64 r2.r, .slice r2.A r2.m r2.cap, .int .i64 r2.sq, .int .i64 r2.tg] 42)); have ld := dec_load (Blk.new w' 42 #[.int .i64 d2, .int .i64 r2.k, .int .i64 r2.c, .int .i64 r2.q, .string r2.y, .string r2.x, .int .i64 r2.r, .slice r2.A r2.m r2.cap, .int .i64 r2.sq, .int .i64 r2.tg]); clear PF Fc hb'; have PF := Pn; clear Pn; have sd := dec_store PF.s.d rfl d2 r2.k r2.c r2.q r2.y r2.x r2.r r2.A r2.m r2.cap r2.sq r2.tg; have Fc := PF.f.cell)
  rw [rounds_succ]
  cases b3
  case true =>
    go_wp2_with (go_at_call 32; (with_reducible refine (C3.out _ _ _ _ ⟨PF.s.sn, PF.s.id⟩).mono ?_); rintro e w' ⟨rfl, hb'⟩; have Pn := (PF.keep hb').keep (below_one (.cells #[.int .i64 d3, .int .i64 r3.k, .int .i64 r3.c, .int .i64 r3.q, .string r3.y, .string r3.x, .int .i64 r3.r, .slice r3.A r3.m r3.cap, .int .i64 r3.sq, .int .i64 r3.tg] 42)); have ld := dec_load (Blk.new w' 42 #[.int .i64 d3, .int .i64 r3.k, .int .i64 r3.c, .int .i64 r3.q, .string r3.y, .string r3.x, .int .i64 r3.r, .slice r3.A r3.m r3.cap, .int .i64 r3.sq, .int .i64 r3.tg]); clear PF Fc hb'; have PF := Pn; clear Pn; have sd := dec_store PF.s.d rfl d3 r3.k r3.c r3.q r3.y r3.x r3.r r3.A r3.m r3.cap r3.sq r3.tg; have Fc := PF.f.cell)
    refine bodyPost_ret (v := .agg #[.int .i64 d3, .int .i64 r3.k, .int .i64 r3.c, .int .i64 r3.q, .string r3.y, .string r3.x, .int .i64 r3.r, .slice r3.A r3.m r3.cap, .int .i64 r3.sq, .int .i64 r3.tg]) (results_dec rfl rfl (PF.s.d.decSet (cs' := #[.int .i64 d3, .int .i64 r3.k, .int .i64 r3.c, .int .i64 r3.q, .string r3.y, .string r3.x, .int .i64 r3.r, .slice r3.A r3.m r3.cap, .int .i64 r3.sq, .int .i64 r3.tg]) rfl)) rfl ?_
    exact ⟨by rw [HR.out]; rfl, below_decSet PF.s.hb (by omega) _⟩
  go_wp2_with (go_at_call 32; (with_reducible refine (C3.out _ _ _ _ ⟨PF.s.sn, PF.s.id⟩).mono ?_); rintro e w' ⟨rfl, hb'⟩; have Pn := (PF.keep hb').keep (below_one (.cells #[.int .i64 d3, .int .i64 r3.k, .int .i64 r3.c, .int .i64 r3.q, .string r3.y, .string r3.x, .int .i64 r3.r, .slice r3.A r3.m r3.cap, .int .i64 r3.sq, .int .i64 r3.tg] 42)); have ld := dec_load (Blk.new w' 42 #[.int .i64 d3, .int .i64 r3.k, .int .i64 r3.c, .int .i64 r3.q, .string r3.y, .string r3.x, .int .i64 r3.r, .slice r3.A r3.m r3.cap, .int .i64 r3.sq, .int .i64 r3.tg]); clear PF Fc hb'; have PF := Pn; clear Pn; have sd := dec_store PF.s.d rfl d3 r3.k r3.c r3.q r3.y r3.x r3.r r3.A r3.m r3.cap r3.sq r3.tg; have Fc := PF.f.cell)
  rw [rounds_succ]
  cases b4
  case true =>
    go_wp2_with (go_at_call 36; (with_reducible refine (C4.out _ _ _ PF.s.sn).mono ?_); rintro e w' ⟨rfl, hb'⟩; have Pn := (PF.keep hb').keep (below_one (.cells #[.int .i64 d4, .int .i64 r4.k, .int .i64 r4.c, .int .i64 r4.q, .string r4.y, .string r4.x, .int .i64 r4.r, .slice r4.A r4.m r4.cap, .int .i64 r4.sq, .int .i64 r4.tg] 42)); have ld := dec_load (Blk.new w' 42 #[.int .i64 d4, .int .i64 r4.k, .int .i64 r4.c, .int .i64 r4.q, .string r4.y, .string r4.x, .int .i64 r4.r, .slice r4.A r4.m r4.cap, .int .i64 r4.sq, .int .i64 r4.tg]); clear PF Fc hb'; have PF := Pn; clear Pn; have sd := dec_store PF.s.d rfl d4 r4.k r4.c r4.q r4.y r4.x r4.r r4.A r4.m r4.cap r4.sq r4.tg; have Fc := PF.f.cell)
    refine bodyPost_ret (v := .agg #[.int .i64 d4, .int .i64 r4.k, .int .i64 r4.c, .int .i64 r4.q, .string r4.y, .string r4.x, .int .i64 r4.r, .slice r4.A r4.m r4.cap, .int .i64 r4.sq, .int .i64 r4.tg]) (results_dec rfl rfl (PF.s.d.decSet (cs' := #[.int .i64 d4, .int .i64 r4.k, .int .i64 r4.c, .int .i64 r4.q, .string r4.y, .string r4.x, .int .i64 r4.r, .slice r4.A r4.m r4.cap, .int .i64 r4.sq, .int .i64 r4.tg]) rfl)) rfl ?_
    exact ⟨by rw [HR.out]; rfl, below_decSet PF.s.hb (by omega) _⟩
  go_wp2_with (go_at_call 36; (with_reducible refine (C4.out _ _ _ PF.s.sn).mono ?_); rintro e w' ⟨rfl, hb'⟩; have Pn := (PF.keep hb').keep (below_one (.cells #[.int .i64 d4, .int .i64 r4.k, .int .i64 r4.c, .int .i64 r4.q, .string r4.y, .string r4.x, .int .i64 r4.r, .slice r4.A r4.m r4.cap, .int .i64 r4.sq, .int .i64 r4.tg] 42)); have ld := dec_load (Blk.new w' 42 #[.int .i64 d4, .int .i64 r4.k, .int .i64 r4.c, .int .i64 r4.q, .string r4.y, .string r4.x, .int .i64 r4.r, .slice r4.A r4.m r4.cap, .int .i64 r4.sq, .int .i64 r4.tg]); clear PF Fc hb'; have PF := Pn; clear Pn; have sd := dec_store PF.s.d rfl d4 r4.k r4.c r4.q r4.y r4.x r4.r r4.A r4.m r4.cap r4.sq r4.tg; have Fc := PF.f.cell)
  rw [rounds_succ]
  have sd1 := dec_store PF.s.d rfl 2 0 0 0 ByteArray.empty ByteArray.empty 0 none 0 0 1 1
  have sd2 := dec_store PF.s.d rfl 2 0 0 0 ⟨#[]⟩ ⟨#[]⟩ 0 none 0 0 1 1
  go_wp2_with fail
  refine bodyPost_ret (v := decF 2 { zeroRec with sq := 1, tg := 1 }) (results_dec rfl rfl (PF.s.d.decSet (cs' := #[.int .i64 2, .int .i64 0, .int .i64 0, .int .i64 0, .string ByteArray.empty, .string ByteArray.empty, .int .i64 0, .slice none 0 0, .int .i64 1, .int .i64 1]) rfl)) rfl ?_
  exact ⟨by rw [HR.out]; rfl, below_decSet PF.s.hb (by omega) _⟩
end Go.Proofs.YtmgiholmhhjpaaaDoor
