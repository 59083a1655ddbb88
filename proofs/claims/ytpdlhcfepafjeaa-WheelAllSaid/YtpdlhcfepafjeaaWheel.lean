/- package wheel: New, Set, Cancel, At, Len, Next. -/
import Derived.Test.YtpdlhcfepafjeaaTims
import Derived.WalkKit
import Derived.WalkSpells
import Derived.WalkLawsBesides
import Derived.Deep.RegionHeld3
import Derived.Deep.DrawnRows
import Derived.Deep.DeepCutAuto
import Derived.Deep.DeepFit
import Derived.Lib.Hide
import Derived.BigQuiet
import Derived.Deep.QuietTactic
import Derived.Deep.RegionHeld3
namespace Go.Proofs.Ytpdlhcfepafjeaa
open Go.RowKit
set_option linter.unusedVariables false
set_option linter.unusedSimpArgs false
set_option maxRecDepth 20000
attribute [local go_sem ↓] Go.wp_at_zero Go.wp_at_succ
attribute [local go_sem] World.cell?_alloc_some frozen_alloc_some
open Go.Maps
attribute [local go_sem ↓ high] id_neq_run id_eql_run

theorem grown_pre {w wd w' : World} {row : Option Nat} (h : Below w.heap.size w wd) (k : wd.grownBy w' row) : w.grownBy w' row :=
  ⟨k.os.trans h.os, k.tape.trans h.tape, k.output.trans h.output, Nat.le_trans h.size k.size, fun i hi hne => (k.block i (Nat.lt_of_lt_of_le hi h.size) hne).trans (h.block i hi)⟩
theorem grown_post {w w1 w' : World} {row : Option Nat} (k : w.grownBy w1 row) (h : Below w1.heap.size w1 w') : w.grownBy w' row :=
  ⟨h.os.trans k.os, h.tape.trans k.tape, h.output.trans k.output, Nat.le_trans k.size h.size, fun i hi hne => (h.block i (Nat.lt_of_lt_of_le hi k.size)).trans (k.block i hi hne)⟩
theorem below_turn {B b : Nat} {a w w' : World} (h : Below B a w) (k : w.grownBy w' (some b)) (hB : B ≤ b) (hs : B ≤ w.heap.size) : Below B a w' :=
  ⟨k.os.trans h.os, k.tape.trans h.tape, k.output.trans h.output, Nat.le_trans h.size k.size, fun i hi => (k.block i (by omega) (fun e => by injection e with e; omega)).trans (h.block i hi)⟩
/-- A wheel of the call's own: its cell and its map. -/
structure WhAt (w : World) (g b n : Nat) (x : List TimT) : Prop where
  pb : Blk w g 98 #[.map (some b)]
  mp : MapAt w b n x
theorem WhAt.keep {w w' : World} {g b n : Nat} {x : List TimT} (h : WhAt w g b n x) (hb : Below w.heap.size w w') : WhAt w' g b n x := ⟨h.pb.keep hb, h.mp.keep hb⟩
theorem WhAt.cells {w w' : World} {g b n : Nat} {x : List TimT} (h : WhAt w g b n x) (hg : w.grownBy w' (some b)) : Cells w w' := h.mp.cells hg
theorem WhAt.other {w : World} {g b n : Nat} {x y : List TimT} (h : WhAt w g b n x) (hn : Ids1 y) (hl : y.length = x.length) (hm : ∀ t, t ∈ y ↔ t ∈ x) : WhAt w g b n y := ⟨h.pb, h.mp.other hn hl hm⟩
/-- What a call that turns the wheel leaves. -/
def Wheels (w : World) (v : Value) (g b n : Nat) (x : List TimT) (e : Ending) (w' : World) : Prop := e = .returned v ∧ WhAt w' g b n x ∧ w.grownBy w' (some b)

set_option maxHeartbeats 400000 in
theorem whnew_any (w : World) : Calls Try.prog 18 #[] w (fun e w' => e = .returned (.pointer (some ⟨w.heap.size + 1, 0, none⟩)) ∧ WhAt w' (w.heap.size + 1) w.heap.size 0 [] ∧ Below w.heap.size w w') := by
  have hmm := @run_makeMap Try.prog
  go_enter Try.func18, Try.ntmps18
  go_wp2_with fail
  go_ret
  have hm := MapAt.made w
  refine ⟨by simp, ⟨Blk.newAt (by simp), hm.keep (below_one _)⟩, by ((repeat' first | with_reducible exact Below.refl _ _ | with_reducible assumption | with_reducible refine Below.alloc ?_ ?_ _ | with_reducible refine Below.setCell ?_ ?_ _ | with_reducible apply Below.drew | with_reducible apply below_drewN | with_reducible refine below_call ?_ (by with_reducible assumption) ?_) <;> (first | omega | (simp; done) | (simp; omega) | (simp at *; omega)))⟩
set_option maxHeartbeats 400000 in
theorem whlen_any (g b n : Nat) (x : List TimT) (w : World) (h : WhAt w g b n x) : Calls Try.prog 20 #[.pointer (some ⟨g, 0, none⟩)] w (Gives w (.int .i64 (x.length : Nat))) := by
  have pc := h.pb.cell 0
  have hl := fun ty => h.mp.size_ ty
  go_enter Try.func20, Try.ntmps20
  go_wp2_with fail
  go_ret
  exact ⟨rfl, by ((repeat' first | with_reducible exact Below.refl _ _ | with_reducible assumption | with_reducible refine Below.alloc ?_ ?_ _ | with_reducible refine Below.setCell ?_ ?_ _ | with_reducible apply Below.drew | with_reducible apply below_drewN | with_reducible refine below_call ?_ (by with_reducible assumption) ?_) <;> (first | omega | (simp; done) | (simp; omega) | (simp at *; omega)))⟩
abbrev SW (g : Nat) (cs : Array Value) (h : Nat) (ds : Array Value) (wx : World) : Prop := (∀ i, wx.cell? ⟨g, i, none⟩ = cs[i]?) ∧ ∀ i, wx.cell? ⟨h, i, none⟩ = ds[i]?
set_option maxHeartbeats 1000000 in
theorem whset_any (g b n : Nat) (x : List TimT) (t : TimT) (w : World) (h : WhAt w g b n x) (hn : n < maxLen) (hi : wfI t.1) (hv : (Lit.int .i64 t.2).wf = true) : Calls Try.prog 19 #[.pointer (some ⟨g, 0, none⟩), .agg #[.int .i64 t.1.1, .int .i64 t.1.2], .int .i64 t.2] w (Wheels w (.tuple #[]) g b (n + 1) (setT x t)) := by
  obtain ⟨⟨t1, t2⟩, t3⟩ := t
  have hk := below_one (w := w) (.cells #[.int .i64 t1, .int .i64 t2] 34)
  have I0 := Blk.new w 34 #[.int .i64 t1, .int .i64 t2]
  have H := h.keep hk
  have Hk := Lib.hid hk
  clear h hk
  go_enter Try.func19, Try.ntmps19
  go_upto_region 1 with fail
  replace H := H.keep (Below.refl _ _).drew
  replace I0 := Blk.keep I0 (Below.refl _ _).drew
  replace Hk := Lib.hid (Hk.out.drew)
  (refine wp_region_held_drew (S := (SW g #[.map (some b)] w.heap.size #[.int .i64 t1, .int .i64 t2])) (by kernel_rfl) ?_ (fun hHeld => ?_); (· exact ⟨H.pb.cell, I0.cell⟩))
  (refine take_op (i := 0) (v := ?_) rfl (by kernel_rfl) (by kernel_rfl) (by kernel_rfl) (fun _ _ _ h => h) (by rfl) ?_ hHeld ?_; rotate_left; (· (intro wS hSw; (try dsimp only at hSw); go_simp; first | done | with_reducible rfl)); simp only [Act.put, List.setIfInBounds_toArray, List.set_cons_zero, List.set_cons_succ]); (refine take_op (i := 1) (v := ?_) rfl (by kernel_rfl) (by kernel_rfl) (by kernel_rfl) (fun _ _ _ h => h) (by rfl) ?_ hHeld ?_; rotate_left; (· (intro wS hSw; (try dsimp only at hSw); go_simp; first | done | with_reducible rfl)); simp only [Act.put, List.setIfInBounds_toArray, List.set_cons_zero, List.set_cons_succ]); (refine take_op (i := 2) (v := ?_) rfl (by kernel_rfl) (by kernel_rfl) (by kernel_rfl) (fun _ _ _ h => h) (by rfl) ?_ hHeld ?_; rotate_left; (· (intro wS hSw; (try dsimp only at hSw); go_simp; first | done | with_reducible rfl)); simp only [Act.put, List.setIfInBounds_toArray, List.set_cons_zero, List.set_cons_succ]); (refine take_op (i := 3) (v := ?_) rfl (by kernel_rfl) (by kernel_rfl) (by kernel_rfl) (fun _ _ _ h => h) (by rfl) ?_ hHeld ?_; rotate_left; (· (intro wS hSw; (try dsimp only at hSw); go_simp; first | done | with_reducible rfl)); simp only [Act.put, List.setIfInBounds_toArray, List.set_cons_zero, List.set_cons_succ]); (refine take_op (i := 4) (v := ?_) rfl (by kernel_rfl) (by kernel_rfl) (by kernel_rfl) (fun _ _ _ h => h) (by rfl) ?_ hHeld ?_; rotate_left; (· (intro wS hSw; (try dsimp only at hSw); go_simp; first | done | with_reducible rfl)); simp only [Act.put, List.setIfInBounds_toArray, List.set_cons_zero, List.set_cons_succ]); (refine take_op (i := 5) (v := ?_) rfl (by kernel_rfl) (by kernel_rfl) (by kernel_rfl) (fun _ _ _ h => h) (by rfl) ?_ hHeld ?_; rotate_left; (· (intro wS hSw; (try dsimp only at hSw); go_simp; first | done | with_reducible rfl)); simp only [Act.put, List.setIfInBounds_toArray, List.set_cons_zero, List.set_cons_succ])
  obtain ⟨w', hrun, hm, hg⟩ := H.mp.store hn hi hv
  simp only at hrun
  have hcl := H.cells hg
  have H2 : WhAt w' g b (n + 1) (setT x ((t1, t2), t3)) := ⟨hcl.blk H.pb, hm⟩
  (refine call_op (i := 6) rfl (by kernel_rfl) (by rfl) (fun K hK => ?_); go_simp; skip; refine hK.out _ _ ⟨H2.pb.cell, (hcl.blk I0).cell⟩ (fun hHeld2 => ?_); clear hK K hHeld; have hHeld := hHeld2; clear hHeld2; (try simp only [Act.put, List.setIfInBounds_toArray, List.set_cons_zero, List.set_cons_succ]))
  (refine wpAnyH_done (by kernel_rfl) ?_ _)
  have hgw := grown_pre Hk.out hg
  clear hHeld hrun hcl H I0 hm hg
  go_wp2_with fail
  go_end0
  exact ⟨rfl, H2, hgw⟩
/-- Is an id due some time? -/
def inT (x : List TimT) (i : IdP) : Bool := x.any fun t => decide (t.1 = i)
abbrev SL5 (g : Nat) (cs : Array Value) (h : Nat) (ds : Array Value) (b : Nat) (i : IdP) (z v : Int) (k : Bool) (wx : World) : Prop := (∀ i, wx.cell? ⟨g, i, none⟩ = cs[i]?) ∧ (∀ i, wx.cell? ⟨h, i, none⟩ = ds[i]?) ∧ (Instr.lookup 96 (.map (some b)) (idV i) true).run Try.prog wx = .ok (.tuple #[.int .i64 v, .bool k]) wx
set_option maxHeartbeats 1000000 in
theorem what_any (g b n : Nat) (x : List TimT) (i : IdP) (w : World) (h : WhAt w g b n x) (hi : wfI i) : Calls Try.prog 23 #[.pointer (some ⟨g, 0, none⟩), .agg #[.int .i64 i.1, .int .i64 i.2]] w (Gives w (.tuple #[.int .i64 (atV x i), .bool (inT x i)])) := by
  obtain ⟨i1, i2⟩ := i
  have hk := below_one (w := w) (.cells #[.int .i64 i1, .int .i64 i2] 34)
  have I0 := Blk.new w 34 #[.int .i64 i1, .int .i64 i2]
  have H := h.keep hk
  clear h
  have hlk : ∀ W, MapAt W b n x → (Instr.lookup 96 (.map (some b)) (idV (i1, i2)) true).run Try.prog W = .ok (.tuple #[.int .i64 (atV x (i1, i2)), .bool (inT x (i1, i2))]) W := fun W hm => hm.look_ok hi
  generalize atV x (i1, i2) = v at hlk ⊢
  generalize inT x (i1, i2) = k at hlk ⊢
  have Hlk := Lib.hid hlk
  clear hlk
  go_enter Try.func23, Try.ntmps23
  go_upto_region 1 with fail
  replace H := H.keep (Below.refl _ _).drew
  replace I0 := Blk.keep I0 (Below.refl _ _).drew
  replace hk := hk.drew
  have hlook := Hlk.out _ H.mp
  clear Hlk
  (refine wp_region_held_drew (S := (SL5 g #[.map (some b)] w.heap.size #[.int .i64 i1, .int .i64 i2] b (i1, i2) 0 v k)) (by kernel_rfl) ?_ (fun hHeld => ?_); (· exact ⟨H.pb.cell, I0.cell, hlook⟩))
  (refine take_op (i := 0) (v := ?_) rfl (by kernel_rfl) (by kernel_rfl) (by kernel_rfl) (fun _ _ _ h => h) (by rfl) ?_ hHeld ?_; rotate_left; (· (intro wS hSw; (try dsimp only at hSw); go_simp; first | done | with_reducible rfl)); simp only [Act.put, List.setIfInBounds_toArray, List.set_cons_zero, List.set_cons_succ]); (refine take_op (i := 1) (v := ?_) rfl (by kernel_rfl) (by kernel_rfl) (by kernel_rfl) (fun _ _ _ h => h) (by rfl) ?_ hHeld ?_; rotate_left; (· (intro wS hSw; (try dsimp only at hSw); go_simp; first | done | with_reducible rfl)); simp only [Act.put, List.setIfInBounds_toArray, List.set_cons_zero, List.set_cons_succ]); (refine take_op (i := 2) (v := ?_) rfl (by kernel_rfl) (by kernel_rfl) (by kernel_rfl) (fun _ _ _ h => h) (by rfl) ?_ hHeld ?_; rotate_left; (· (intro wS hSw; (try dsimp only at hSw); go_simp; first | done | with_reducible rfl)); simp only [Act.put, List.setIfInBounds_toArray, List.set_cons_zero, List.set_cons_succ]); (refine take_op (i := 3) (v := ?_) rfl (by kernel_rfl) (by kernel_rfl) (by kernel_rfl) (fun _ _ _ h => h) (by rfl) ?_ hHeld ?_; rotate_left; (· (intro wS hSw; (try dsimp only at hSw); go_simp; first | done | with_reducible rfl)); simp only [Act.put, List.setIfInBounds_toArray, List.set_cons_zero, List.set_cons_succ]); (refine take_op (i := 4) (v := ?_) rfl (by kernel_rfl) (by kernel_rfl) (by kernel_rfl) (fun _ _ _ h => h) (by rfl) ?_ hHeld ?_; rotate_left; (· (intro wS hSw; (try dsimp only at hSw); go_simp; first | done | with_reducible rfl)); simp only [Act.put, List.setIfInBounds_toArray, List.set_cons_zero, List.set_cons_succ]); (refine take_op (i := 5) (v := ?_) rfl (by kernel_rfl) (by kernel_rfl) (by kernel_rfl) (fun _ _ _ h => h) (by rfl) ?_ hHeld ?_; rotate_left; (· (intro wS hSw; (try dsimp only at hSw); go_simp; first | done | with_reducible rfl)); simp only [Act.put, List.setIfInBounds_toArray, List.set_cons_zero, List.set_cons_succ]); (refine take_op (i := 6) (v := ?_) rfl (by kernel_rfl) (by kernel_rfl) (by kernel_rfl) (fun _ _ _ h => h) (by rfl) ?_ hHeld ?_; rotate_left; (· (intro wS hSw; (try dsimp only at hSw); go_simp; first | done | with_reducible rfl)); simp only [Act.put, List.setIfInBounds_toArray, List.set_cons_zero, List.set_cons_succ]); (refine take_op (i := 7) (v := ?_) rfl (by kernel_rfl) (by kernel_rfl) (by kernel_rfl) (fun _ _ _ h => h) (by rfl) ?_ hHeld ?_; rotate_left; (· (intro wS hSw; (try dsimp only at hSw); go_simp; first | done | with_reducible rfl)); simp only [Act.put, List.setIfInBounds_toArray, List.set_cons_zero, List.set_cons_succ]); (refine take_op (i := 8) (v := ?_) rfl (by kernel_rfl) (by kernel_rfl) (by kernel_rfl) (fun _ _ _ h => h) (by rfl) ?_ hHeld ?_; rotate_left; (· (intro wS hSw; (try dsimp only at hSw); go_simp; first | done | with_reducible rfl)); simp only [Act.put, List.setIfInBounds_toArray, List.set_cons_zero, List.set_cons_succ]); (refine take_op (i := 9) (v := ?_) rfl (by kernel_rfl) (by kernel_rfl) (by kernel_rfl) (fun _ _ _ h => h) (by rfl) ?_ hHeld ?_; rotate_left; (· (intro wS hSw; (try dsimp only at hSw); go_simp; first | done | with_reducible rfl)); simp only [Act.put, List.setIfInBounds_toArray, List.set_cons_zero, List.set_cons_succ]); (refine take_op (i := 10) (v := ?_) rfl (by kernel_rfl) (by kernel_rfl) (by kernel_rfl) (fun _ _ _ h => h) (by rfl) ?_ hHeld ?_; rotate_left; (· (intro wS hSw; (try dsimp only at hSw); go_simp; first | done | with_reducible rfl)); simp only [Act.put, List.setIfInBounds_toArray, List.set_cons_zero, List.set_cons_succ])
  (refine wpAnyH_done (by kernel_rfl) ?_ _)
  clear hHeld H I0 hlook
  generalize World.drew _ = wd at hk ⊢
  go_wp2_with fail
  go_ret2
  exact ⟨rfl, hk⟩
set_option maxHeartbeats 2000000 in
theorem whcancel_any (g b n : Nat) (x : List TimT) (i : IdP) (w : World) (h : WhAt w g b n x) (hi : wfI i) : Calls Try.prog 25 #[.pointer (some ⟨g, 0, none⟩), .agg #[.int .i64 i.1, .int .i64 i.2]] w (Wheels w (.bool (inT x i)) g b n (outT x i)) := by
  obtain ⟨i1, i2⟩ := i
  have hk := below_one (w := w) (.cells #[.int .i64 i1, .int .i64 i2] 34)
  have I0 := Blk.new w 34 #[.int .i64 i1, .int .i64 i2]
  have H := h.keep hk
  clear h
  have hlk : ∀ W, MapAt W b n x → (Instr.lookup 96 (.map (some b)) (idV (i1, i2)) true).run Try.prog W = .ok (.tuple #[.int .i64 (atV x (i1, i2)), .bool (inT x (i1, i2))]) W := fun W hm => hm.look_ok hi
  generalize atV x (i1, i2) = v at hlk
  generalize inT x (i1, i2) = k at hlk ⊢
  have Hlk := Lib.hid hlk
  clear hlk
  go_enter Try.func25, Try.ntmps25
  go_upto_region 1 with fail
  replace H := H.keep (Below.refl _ _).drew
  replace I0 := Blk.keep I0 (Below.refl _ _).drew
  replace hk := hk.drew
  have hlook := Hlk.out _ H.mp
  clear Hlk
  (refine wp_region_held_drew (S := (SL5 g #[.map (some b)] w.heap.size #[.int .i64 i1, .int .i64 i2] b (i1, i2) 0 v k)) (by kernel_rfl) ?_ (fun hHeld => ?_); (· exact ⟨H.pb.cell, I0.cell, hlook⟩))
  (refine take_op (i := 0) (v := ?_) rfl (by kernel_rfl) (by kernel_rfl) (by kernel_rfl) (fun _ _ _ h => h) (by rfl) ?_ hHeld ?_; rotate_left; (· (intro wS hSw; (try dsimp only at hSw); go_simp; first | done | with_reducible rfl)); simp only [Act.put, List.setIfInBounds_toArray, List.set_cons_zero, List.set_cons_succ]); (refine take_op (i := 1) (v := ?_) rfl (by kernel_rfl) (by kernel_rfl) (by kernel_rfl) (fun _ _ _ h => h) (by rfl) ?_ hHeld ?_; rotate_left; (· (intro wS hSw; (try dsimp only at hSw); go_simp; first | done | with_reducible rfl)); simp only [Act.put, List.setIfInBounds_toArray, List.set_cons_zero, List.set_cons_succ]); (refine take_op (i := 2) (v := ?_) rfl (by kernel_rfl) (by kernel_rfl) (by kernel_rfl) (fun _ _ _ h => h) (by rfl) ?_ hHeld ?_; rotate_left; (· (intro wS hSw; (try dsimp only at hSw); go_simp; first | done | with_reducible rfl)); simp only [Act.put, List.setIfInBounds_toArray, List.set_cons_zero, List.set_cons_succ]); (refine take_op (i := 3) (v := ?_) rfl (by kernel_rfl) (by kernel_rfl) (by kernel_rfl) (fun _ _ _ h => h) (by rfl) ?_ hHeld ?_; rotate_left; (· (intro wS hSw; (try dsimp only at hSw); go_simp; first | done | with_reducible rfl)); simp only [Act.put, List.setIfInBounds_toArray, List.set_cons_zero, List.set_cons_succ]); (refine take_op (i := 4) (v := ?_) rfl (by kernel_rfl) (by kernel_rfl) (by kernel_rfl) (fun _ _ _ h => h) (by rfl) ?_ hHeld ?_; rotate_left; (· (intro wS hSw; (try dsimp only at hSw); go_simp; first | done | with_reducible rfl)); simp only [Act.put, List.setIfInBounds_toArray, List.set_cons_zero, List.set_cons_succ]); (refine take_op (i := 5) (v := ?_) rfl (by kernel_rfl) (by kernel_rfl) (by kernel_rfl) (fun _ _ _ h => h) (by rfl) ?_ hHeld ?_; rotate_left; (· (intro wS hSw; (try dsimp only at hSw); go_simp; first | done | with_reducible rfl)); simp only [Act.put, List.setIfInBounds_toArray, List.set_cons_zero, List.set_cons_succ]); (refine take_op (i := 6) (v := ?_) rfl (by kernel_rfl) (by kernel_rfl) (by kernel_rfl) (fun _ _ _ h => h) (by rfl) ?_ hHeld ?_; rotate_left; (· (intro wS hSw; (try dsimp only at hSw); go_simp; first | done | with_reducible rfl)); simp only [Act.put, List.setIfInBounds_toArray, List.set_cons_zero, List.set_cons_succ]); (refine take_op (i := 7) (v := ?_) rfl (by kernel_rfl) (by kernel_rfl) (by kernel_rfl) (fun _ _ _ h => h) (by rfl) ?_ hHeld ?_; rotate_left; (· (intro wS hSw; (try dsimp only at hSw); go_simp; first | done | with_reducible rfl)); simp only [Act.put, List.setIfInBounds_toArray, List.set_cons_zero, List.set_cons_succ]); (refine take_op (i := 8) (v := ?_) rfl (by kernel_rfl) (by kernel_rfl) (by kernel_rfl) (fun _ _ _ h => h) (by rfl) ?_ hHeld ?_; rotate_left; (· (intro wS hSw; (try dsimp only at hSw); go_simp; first | done | with_reducible rfl)); simp only [Act.put, List.setIfInBounds_toArray, List.set_cons_zero, List.set_cons_succ]); (refine take_op (i := 9) (v := ?_) rfl (by kernel_rfl) (by kernel_rfl) (by kernel_rfl) (fun _ _ _ h => h) (by rfl) ?_ hHeld ?_; rotate_left; (· (intro wS hSw; (try dsimp only at hSw); go_simp; first | done | with_reducible rfl)); simp only [Act.put, List.setIfInBounds_toArray, List.set_cons_zero, List.set_cons_succ]); (refine take_op (i := 10) (v := ?_) rfl (by kernel_rfl) (by kernel_rfl) (by kernel_rfl) (fun _ _ _ h => h) (by rfl) ?_ hHeld ?_; rotate_left; (· (intro wS hSw; (try dsimp only at hSw); go_simp; first | done | with_reducible rfl)); simp only [Act.put, List.setIfInBounds_toArray, List.set_cons_zero, List.set_cons_succ])
  (refine wpAnyH_done (by kernel_rfl) ?_ _)
  clear hHeld hlook
  generalize World.drew _ = wd at hk H I0 ⊢
  go_upto_region 2 with fail
  replace H := H.keep (Below.refl _ _).drew
  replace I0 := Blk.keep I0 (Below.refl _ _).drew
  replace hk := hk.drew
  (refine wp_region_held_drew (S := (SW g #[.map (some b)] w.heap.size #[.int .i64 i1, .int .i64 i2])) (by kernel_rfl) ?_ (fun hHeld => ?_); (· exact ⟨H.pb.cell, I0.cell⟩))
  (refine take_op (i := 0) (v := ?_) rfl (by kernel_rfl) (by kernel_rfl) (by kernel_rfl) (fun _ _ _ h => h) (by rfl) ?_ hHeld ?_; rotate_left; (· (intro wS hSw; (try dsimp only at hSw); go_simp; first | done | with_reducible rfl)); simp only [Act.put, List.setIfInBounds_toArray, List.set_cons_zero, List.set_cons_succ]); (refine take_op (i := 1) (v := ?_) rfl (by kernel_rfl) (by kernel_rfl) (by kernel_rfl) (fun _ _ _ h => h) (by rfl) ?_ hHeld ?_; rotate_left; (· (intro wS hSw; (try dsimp only at hSw); go_simp; first | done | with_reducible rfl)); simp only [Act.put, List.setIfInBounds_toArray, List.set_cons_zero, List.set_cons_succ]); (refine take_op (i := 2) (v := ?_) rfl (by kernel_rfl) (by kernel_rfl) (by kernel_rfl) (fun _ _ _ h => h) (by rfl) ?_ hHeld ?_; rotate_left; (· (intro wS hSw; (try dsimp only at hSw); go_simp; first | done | with_reducible rfl)); simp only [Act.put, List.setIfInBounds_toArray, List.set_cons_zero, List.set_cons_succ]); (refine take_op (i := 3) (v := ?_) rfl (by kernel_rfl) (by kernel_rfl) (by kernel_rfl) (fun _ _ _ h => h) (by rfl) ?_ hHeld ?_; rotate_left; (· (intro wS hSw; (try dsimp only at hSw); go_simp; first | done | with_reducible rfl)); simp only [Act.put, List.setIfInBounds_toArray, List.set_cons_zero, List.set_cons_succ]); (refine take_op (i := 4) (v := ?_) rfl (by kernel_rfl) (by kernel_rfl) (by kernel_rfl) (fun _ _ _ h => h) (by rfl) ?_ hHeld ?_; rotate_left; (· (intro wS hSw; (try dsimp only at hSw); go_simp; first | done | with_reducible rfl)); simp only [Act.put, List.setIfInBounds_toArray, List.set_cons_zero, List.set_cons_succ])
  obtain ⟨w', hrun, hm, hg⟩ := H.mp.drop hi 0
  have hcl := H.cells hg
  have H2 : WhAt w' g b n (outT x (i1, i2)) := ⟨hcl.blk H.pb, hm⟩
  (refine call_op (i := 5) rfl (by kernel_rfl) (by rfl) (fun K hK => ?_); go_simp; skip; refine hK.out _ _ ⟨H2.pb.cell, (hcl.blk I0).cell⟩ (fun hHeld2 => ?_); clear hK K hHeld; have hHeld := hHeld2; clear hHeld2; (try simp only [Act.put, List.setIfInBounds_toArray, List.set_cons_zero, List.set_cons_succ]))
  (refine wpAnyH_done (by kernel_rfl) ?_ _)
  have hgw := grown_pre hk hg
  clear hHeld hrun hcl H I0 hm hg
  go_wp2_with fail
  go_ret
  exact ⟨rfl, H2, hgw⟩

/-- A range over the map under way: l has come. -/
def RangeAt (w : World) (b r n : Nat) (x l : List TimT) (cnt : Nat) : Prop := ∃ D left, w.ranges Try.prog 34 RI b r n D left cnt ∧ Rep D x ∧ (∀ t ∈ x, left (idK t.1) = !inT l t.1) ∧ (∀ t ∈ l, t ∈ x) ∧ Ids1 l ∧ cnt + l.length ≤ x.length
theorem RangeAt.kept {w w' : World} {row : Option Nat} {b r n c : Nat} {x l : List TimT} (h : RangeAt w b r n x l c) (hg : w.grownBy w' row) (hb : some b ≠ row) (hr : some r ≠ row) : RangeAt w' b r n x l c := by
  obtain ⟨D, left, h1, h2⟩ := h
  exact ⟨D, left, h1.kept hg hb hr, h2⟩
theorem RangeAt.keep {w w' : World} {b r n c : Nat} {x l : List TimT} (h : RangeAt w b r n x l c) (hb : Below w.heap.size w w') : RangeAt w' b r n x l c :=
  h.kept (grown_of_below hb none) (by simp) (by simp)
theorem RangeAt.map {w : World} {b r n c : Nat} {x l : List TimT} (h : RangeAt w b r n x l c) : MapAt w b n x := by
  obtain ⟨D, left, h1, h2, _⟩ := h
  exact ⟨D, h1.owns, h2⟩
theorem RangeAt.is_iter {w : World} {b r n c : Nat} {x l : List TimT} (h : RangeAt w b r n x l c) : ∃ m s sn c, w.heap[r]? = some (.mapIter m s sn c) := by
  obtain ⟨D, left, ⟨es, clock, since, seen, c0, _, _, _, _, hr, _⟩, _⟩ := h
  exact ⟨_, _, _, _, hr⟩
theorem RangeAt.cells {w w' : World} {b r n c : Nat} {x l : List TimT} (h : RangeAt w b r n x l c) (hg : w.grownBy w' (some r)) : Cells w w' := by
  obtain ⟨m, s, sn, c, hr⟩ := h.is_iter
  exact ⟨hg.os, hg.tape, hg.output, hg.size, fun k cs t f hk => (hg.block k (Array.getElem?_eq_some_iff.1 hk).1 (fun e => by
    injection e with e
    subst e
    rw [hr] at hk
    cases hk)).trans hk⟩
theorem RangeAt.left_eq {w : World} {b r n c : Nat} {x l : List TimT} (h : RangeAt w b r n x l c) : w.rangeLeft b r = c := by
  obtain ⟨D, left, h1, _⟩ := h
  exact h1.left_eq
theorem RangeAt.sub {w : World} {b r n c : Nat} {x l : List TimT} (h : RangeAt w b r n x l c) : (∀ t ∈ l, t ∈ x) ∧ Ids1 l := by
  obtain ⟨D, left, _, _, _, h1, h2, _⟩ := h
  exact ⟨h1, h2⟩
theorem RangeAt.length {w : World} {b r n c : Nat} {x l : List TimT} (h : RangeAt w b r n x l c) : l.length ≤ x.length := by
  obtain ⟨D, left, _, _, _, _, _, h⟩ := h
  omega
theorem inT_mem {l : List TimT} {t : TimT} (h : t ∈ l) : inT l t.1 = true := List.any_eq_true.2 ⟨t, h, by simp⟩
theorem inT_iff {l : List TimT} {i : IdP} : inT l i = true ↔ ∃ t ∈ l, t.1 = i := by
  unfold inT
  rw [List.any_eq_true]
  simp only [decide_eq_true_eq]
theorem inT_snoc {l : List TimT} {t : TimT} {i : IdP} : inT (l ++ [t]) i = (inT l i || decide (i = t.1)) := by
  unfold inT
  rw [List.any_append]
  congr 1
  simp only [List.any_cons, List.any_nil, Bool.or_false]
  rw [Bool.eq_iff_iff]
  simp only [decide_eq_true_eq]
  exact eq_comm
theorem idK_same {i k : IdP} (hi : wfI i) (hk : wfI k) : (idK i).sameKey (idK k) = decide (i = k) := by
  by_cases e : i = k
  · rw [e, WideAt.sameKey_self (idK_key k)]; simp
  · rw [sameKey_ne fun h => e (idK_inj hi hk h)]; simp [e]
theorem ids1_nodup {x : List TimT} (h : Ids1 x) : x.Nodup := h.imp fun {a b} hab e => hab (by rw [e])
theorem sub_length {α : Type} [DecidableEq α] : ∀ {x l : List α}, x.Nodup → (∀ t ∈ x, t ∈ l) → x.length ≤ l.length
  | [], _, _, _ => Nat.zero_le _
  | t :: x, l, hn, h => by
    obtain ⟨h1, h2⟩ := List.nodup_cons.1 hn
    have hm := h t (by simp)
    have ih := sub_length (l := l.erase t) h2 fun u hu => (List.mem_erase_of_ne fun e => h1 (by rw [← e]; exact hu)).2 (h u (by simp [hu]))
    have := List.length_erase_of_mem hm
    have hp : 0 < l.length := List.length_pos_of_mem hm
    simp only [List.length_cons]
    omega
def AllIn (x l : List TimT) : Prop := ∀ t ∈ x, t ∈ l
theorem wpList_range_ids {P : Program} (hP : P = Try.prog) (w : World) {ops : Array Oper} {rest : List Oper} {o : Oper} {a : Act} {Q : Exit → Act → World → Prop} (hg : o.guard = none) (m : Operand) (hop : o.op = Op.range 96 m) (b n : Nat) (x : List TimT) (r : Nat) (hrr : w.heap.size = r) (hm : a.eval m = .map (some b)) (h : MapAt w b n x)
    (hK : ∀ w', RangeAt w' b r n x [] x.length → Below w.heap.size w w' → w'.heap.size = r + 1 → wpList P ops Q rest (a.put o.dst (.pointer (some ⟨r, 0, none⟩))) w') :
    wpList P ops Q (o :: rest) a w := by
  subst hP
  subst hrr
  obtain ⟨D, h1, h2⟩ := h
  refine wpList_range_own w hg m _ hop _ _ idLaw Try.underlying96 RI b n D hm h1 fun w' hr hgr hs => hK w' ⟨D, _, by rw [← h2.size]; exact hr, h2, (fun t ht => by rw [h2.has t ht]; rfl), (fun t ht => by cases ht), List.Pairwise.nil, Nat.le_refl _⟩ ⟨hgr.os, hgr.tape, hgr.output, hgr.size, fun i hi => hgr.block i hi (by simp)⟩ hs
theorem wpList_next_ids {P : Program} (hP : P = Try.prog) (w : World) {ops : Array Oper} {rest : List Oper} {o : Oper} {a : Act} {Q : Exit → Act → World → Prop} (hg : o.guard = none) (it : Operand) (hop : o.op = Op.next it false) (b r n c : Nat) (x l : List TimT) (hit : a.eval it = .pointer (some ⟨r, 0, none⟩)) (h : RangeAt w b r n x l c)
    (hDone : AllIn x l → Hid (l.length = x.length) → wpList P ops Q rest (a.put o.dst (.tuple #[.bool false])) w)
    (hMore : ∀ (t1 t2 t3 : Int) (w' : World) (c' : Nat), Hid (((t1, t2), t3) ∈ x ∧ ((t1, t2), t3) ∉ l) → RangeAt w' b r n x (l ++ [((t1, t2), t3)]) c' → Hid (c' < c ∧ l.length < x.length) → w.grownBy w' (some r) → (Instr.entry (.pointer (some ⟨r, 0, none⟩))).run P w' = .ok (.tuple #[.agg #[.int .i64 t1, .int .i64 t2], .int .i64 t3]) w' → wpList P ops Q rest (a.put o.dst (.tuple #[.bool true, .agg #[.int .i64 t1, .int .i64 t2], .int .i64 t3])) w') :
    wpList P ops Q (o :: rest) a w := by
  subst hP
  obtain ⟨D, left, hr, hR, hl, hsub, hnd, hcnt⟩ := h
  refine wpList_plain hg fun K' hK' => ?_
  unfold Oper.wp
  rcases hr.next idLaw o.type with ⟨h0, hl0, hrun⟩ | ⟨key, v, kl, y, w', cnt', hkey, hlk, hv, hat, hrun, hrg, hlt, hgr, hsz, hen⟩
  · simp [execOp, hop, hit, hrun, Result.andThen]
    have hall : ∀ t ∈ x, t ∈ l := fun t ht => ?_
    · refine hK' _ _ (hDone hall (Lib.hid ?_))
      have h1 := sub_length (ids1_nodup hR.nd) hall
      have h2 := sub_length (ids1_nodup hnd) hsub
      omega
    have h1 := hl t ht
    rw [hl0] at h1
    have h2 : inT l t.1 = true := by simpa using h1.symm
    obtain ⟨u, hu, e⟩ := inT_iff.1 h2
    rw [ids1_one hR.nd ht (hsub u hu) e.symm]
    exact hu
  · have hhas := has_true_of_atKey hat
    obtain ⟨t, ht, rfl⟩ := hR.only kl hhas
    obtain rfl : key = idV t.1 := idLaw.inj hkey (keyOf_id (hR.wf t ht).1)
    obtain ⟨c, rfl, hy, _⟩ := plainElem_int_inv Try.underlying3 hv
    have hc : c = t.2 := by
      have e1 := hat (.lit (.int .i64 0))
      rw [hR.at_ t ht, hy] at e1
      simp only [DataW.lit.injEq, Lit.int.injEq, true_and] at e1
      exact e1.symm
    subst hc
    have hnl : inT l t.1 = false := by
      have h1 := hl t ht
      rw [hlk] at h1
      simpa using h1.symm
    have hnot : t ∉ l := fun hm => by rw [inT_mem hm] at hnl; cases hnl
    have hapart : ∀ u ∈ l, u.1 ≠ t.1 := fun u hu e => by
      have : inT l t.1 = true := inT_iff.2 ⟨u, hu, e⟩
      rw [hnl] at this; cases this
    have hlen : l.length < x.length := by omega
    simp [execOp, hop, hit, hrun, Result.andThen]
    refine hK' _ _ (hMore t.1.1 t.1.2 t.2 w' cnt' (Lib.hid ⟨ht, hnot⟩) ⟨D, _, hrg, hR, fun u hu => ?_, fun u hu => ?_, ?_, ?_⟩ (Lib.hid ⟨hlt, hlen⟩) hgr hen)
    · show (left (idK u.1) && !(idK u.1).sameKey (idK t.1)) = _
      rw [hl u hu, inT_snoc, idK_same (hR.wf u hu).1 (hR.wf t ht).1]
      simp only [Bool.not_or]
    · rcases List.mem_append.1 hu with hu | hu
      · exact hsub u hu
      · simp at hu; rw [hu]; exact ht
    · exact List.pairwise_append.2 ⟨hnd, by simp, fun u hu v hv => by simp at hv; rw [hv]; exact hapart u hu⟩
    · simp; omega
/-- The least tick of those that came. -/
def NextP (l : List TimT) (lst : Int) (sm : Bool) : Prop := (l = [] ∧ lst = 0 ∧ sm = false) ∨ (sm = true ∧ (∃ t ∈ l, t.2 = lst) ∧ ∀ t ∈ l, lst ≤ t.2)
theorem NextP.one (t : TimT) : NextP [t] t.2 true := .inr ⟨rfl, ⟨t, by simp, rfl⟩, fun u hu => by simp at hu; rw [hu]; exact Int.le_refl _⟩
theorem NextP.less {l : List TimT} {lst : Int} {t : TimT} (h : NextP l lst true) (ht : t.2 < lst) : NextP (l ++ [t]) t.2 true := by
  rcases h with ⟨_, _, h⟩ | ⟨_, _, h⟩
  · cases h
  · refine .inr ⟨rfl, ⟨t, by simp, rfl⟩, fun u hu => ?_⟩
    rcases List.mem_append.1 hu with hu | hu
    · have := h u hu; omega
    · simp at hu; rw [hu]; exact Int.le_refl _
theorem NextP.more {l : List TimT} {lst : Int} {t : TimT} (h : NextP l lst true) (ht : ¬ t.2 < lst) : NextP (l ++ [t]) lst true := by
  rcases h with ⟨_, _, h⟩ | ⟨_, ⟨v, hv, e⟩, h⟩
  · cases h
  · refine .inr ⟨rfl, ⟨v, by simp [hv], e⟩, fun u hu => ?_⟩
    rcases List.mem_append.1 hu with hu | hu
    · exact h u hu
    · simp at hu; rw [hu]; omega
theorem NextP.all {x l : List TimT} {lst : Int} {sm : Bool} (h : NextP l lst sm) (h1 : ∀ t ∈ x, t ∈ l) (h2 : ∀ t ∈ l, t ∈ x) : NextP x lst sm := by
  rcases h with ⟨e, h⟩ | ⟨e, ⟨t, ht, et⟩, h⟩
  · left
    subst e
    refine ⟨?_, h⟩
    cases x with
    | nil => rfl
    | cons t r => exact absurd (h1 t (by simp)) (by simp)
  · exact .inr ⟨e, ⟨t, h2 t ht, et⟩, fun u hu => h u (h1 u hu)⟩
set_option maxHeartbeats 2000000 in
theorem whnext_any (g b n : Nat) (x : List TimT) (w : World) (h : WhAt w g b n x) : Calls Try.prog 28 #[.pointer (some ⟨g, 0, none⟩)] w (fun e w' => ∃ lst sm, e = .returned (.tuple #[.int .i64 lst, .bool sm]) ∧ Hid (NextP x lst sm) ∧ Below w.heap.size w w') := by
  have pc := h.pb.cell 0
  have hm := h.mp
  clear h
  go_enter Try.func28, Try.ntmps28
  go_wp2_with (at_range; refine wpList_range_ids rfl _ rfl _ rfl b n x w.heap.size rfl rfl hm ?_; intro w0 hr0 hb0 hs0)
  go_frame
  clear hm pc hs0
  go_loopw [4, 5] (fun s4 s5 wr => ∃ (l : List TimT) (lst : Int) (sm : Bool) (cc : Nat), s4 = .int .i64 lst ∧ s5 = .bool sm ∧ Hid (NextP l lst sm) ∧ RangeAt wr b w.heap.size n x l cc ∧ Below w.heap.size w wr) (fun _ _ wr => wr.rangeLeft b w.heap.size)
  case atStart => exact ⟨[], 0, false, _, rfl, rfl, Lib.hid (.inl ⟨rfl, rfl, rfl⟩), hr0, hb0⟩
  case round =>
    obtain ⟨l, lst, sm, cc, rfl, rfl, hN, hr, hb⟩ := hrel
    go_wp2_with (at_next; refine wpList_next_ids rfl _ rfl _ rfl b w.heap.size n cc x l rfl hr ?_ ?_)
    · intro hall _
      have hfin := Lib.hid (hN.out.all hall hr.sub.1)
      clear hall
      go_wp2_with fail
      go_ret2
      exact ⟨lst, sm, rfl, hfin, hb⟩
    · intro t1 t2 t3 w1 c1 ht hr1 hlt hg hen
      have hb1 := below_turn hb hg (Nat.le_refl _) hb.size
      have Hm := Lib.hid (show w1.rangeLeft b w.heap.size < wr.rangeLeft b w.heap.size by rw [hr1.left_eq, hr.left_eq]; exact hlt.out.1)
      clear ht hlt hg
      cases sm
      · have hN2 : Hid (NextP (l ++ [((t1, t2), t3)]) t3 true) := Lib.hid (by
          rcases hN.out with ⟨e, _, _⟩ | ⟨e, _⟩
          · rw [e]; exact NextP.one ((t1, t2), t3)
          · cases e)
        go_wp2_with fail
        go_roundw
        case rel => exact ⟨_, t3, true, c1, rfl, rfl, hN2, hr1, hb1⟩
        case measure => exact Hm.out
      · by_cases hq : t3 < lst
        · have hN2 : Hid (NextP (l ++ [((t1, t2), t3)]) t3 true) := Lib.hid (hN.out.less (t := ((t1, t2), t3)) hq)
          go_wp2_with fail
          go_roundw
          case rel => exact ⟨_, t3, true, c1, rfl, rfl, hN2, hr1, hb1⟩
          case measure => exact Hm.out
        · have hN2 : Hid (NextP (l ++ [((t1, t2), t3)]) lst true) := Lib.hid (hN.out.more (t := ((t1, t2), t3)) hq)
          go_wp2_with fail
          go_roundw
          case rel => exact ⟨_, lst, true, c1, rfl, rfl, hN2, hr1, hb1⟩
          case measure => exact Hm.out
end Go.Proofs.Ytpdlhcfepafjeaa
