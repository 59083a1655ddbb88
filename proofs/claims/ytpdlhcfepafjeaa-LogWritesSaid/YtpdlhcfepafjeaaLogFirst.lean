/- log.first over the closures of replace. -/
import Derived.Test.YtpdlhcfepafjeaaLogDk
import Derived.LoopN
namespace Go.Proofs.Ytpdlhcfepafjeaa
open Go.RowKit
set_option linter.unusedVariables false
set_option linter.unusedSimpArgs false
set_option maxRecDepth 20000
attribute [local go_sem ↓] Go.wp_at_zero Go.wp_at_succ
attribute [local go_sem] World.cell?_alloc_some frozen_alloc_some
open Go.Sort Go.Lib Go.Shelf Go.Maps

set_option maxHeartbeats 1000000 in
theorem logrep1_any {w W : World} {F : Nat → Prop} {g b x0 x1 : Nat} {d d' : DkT} {s : NmT} (L : LS w W F g b d) (h0 : W.cell? ⟨x0, 0, none⟩ = some (.pointer (some ⟨g, 0, none⟩))) (h1 : W.cell? ⟨x1, 0, none⟩ = some (.string ⟨⟨s⟩⟩)) (hs : wfN s) {v : Int} (he : deedD d (fun l => remC l s) = (v, d')) :
    Calls Try.prog 106 #[.pointer (some ⟨x0, 0, none⟩), .pointer (some ⟨x1, 0, none⟩)] W (LDone w W F g b (.int .i64 (if v = 8 then 0 else v)) d') := by
  have Happ := L.remove s hs he
  clear L hs he
  obtain ⟨R, hR⟩ : ∃ R : Int, (if v = 8 then 0 else v) = R := ⟨_, rfl⟩
  rw [hR]
  have HR := Lib.hid hR
  clear hR
  by_cases h8 : v = 8
  · have hv8 : (v != 8) = false := by simp [h8]
    obtain rfl : R = 0 := by rw [← HR.out, if_pos h8]
    subst h8
    go_enter Try.func106, Try.ntmps106
    go_wp2_with (go_at_call 70; refine Happ.mono ?_; rintro e w3 ⟨rfl, hd⟩; have Hd := Lib.hid hd; clear hd)
    go_ret
    exact ⟨rfl, Hd.out⟩
  · have hv8 : (v != 8) = true := by simp [h8]
    obtain rfl : R = v := by rw [← HR.out, if_neg h8]
    go_enter Try.func106, Try.ntmps106
    go_wp2_with (go_at_call 70; refine Happ.mono ?_; rintro e w3 ⟨rfl, hd⟩; have Hd := Lib.hid hd; clear hd)
    go_ret
    exact ⟨rfl, Hd.out⟩

set_option maxHeartbeats 1000000 in
theorem logrep2_any {w W : World} {F : Nat → Prop} {g b x0 x1 x2 : Nat} {d d' : DkT} {s : NmT} (L : LS w W F g b d) (h0 : W.cell? ⟨x0, 0, none⟩ = some (.pointer (some ⟨g, 0, none⟩))) (h1 : W.cell? ⟨x1, 0, none⟩ = some (.string ⟨⟨s⟩⟩)) (A : Option Addr) (m c : Nat) (p : List Nat)
    (h2 : W.cell? ⟨x2, 0, none⟩ = some (.slice A m c)) (hp : Safe W F A m p) (hpl : p.length ≤ 1073741824) (hs : wfN s) {v : Int} (he : deedD d (fun l => appC d.room l s p) = (v, d')) :
    Calls Try.prog 107 #[.pointer (some ⟨x0, 0, none⟩), .pointer (some ⟨x1, 0, none⟩), .pointer (some ⟨x2, 0, none⟩)] W (LDone w W F g b (.int .i64 v) d') := by
  have Happ := L.append s A m c p hs hp.by_ hp.out hpl he
  clear L hs he hp hpl
  go_enter Try.func107, Try.ntmps107
  go_wp2_with (go_at_call 31; refine Happ.mono ?_; rintro e w3 ⟨rfl, hd⟩; have Hd := Lib.hid hd; clear hd)
  go_ret
  exact ⟨rfl, Hd.out⟩
set_option maxHeartbeats 1000000 in
theorem logrep3_any {w W : World} {F : Nat → Prop} {g b x0 x1 : Nat} {d d' : DkT} {s : NmT} (L : LS w W F g b d) (h0 : W.cell? ⟨x0, 0, none⟩ = some (.pointer (some ⟨g, 0, none⟩))) (h1 : W.cell? ⟨x1, 0, none⟩ = some (.string ⟨⟨s⟩⟩)) (hs : wfN s) {v : Int} (he : deedD d (fun l => syncC l s) = (v, d')) :
    Calls Try.prog 108 #[.pointer (some ⟨x0, 0, none⟩), .pointer (some ⟨x1, 0, none⟩)] W (LDone w W F g b (.int .i64 v) d') := by
  have Happ := L.sync s hs he
  clear L hs he
  go_enter Try.func108, Try.ntmps108
  go_wp2_with (go_at_call 32; refine Happ.mono ?_; rintro e w3 ⟨rfl, hd⟩; have Hd := Lib.hid hd; clear hd)
  go_ret
  exact ⟨rfl, Hd.out⟩
set_option maxHeartbeats 1000000 in
theorem logrep4_any {w W : World} {F : Nat → Prop} {g b x0 x1 x2 : Nat} {d d' : DkT} {s t : NmT} (L : LS w W F g b d) (h0 : W.cell? ⟨x0, 0, none⟩ = some (.pointer (some ⟨g, 0, none⟩))) (h1 : W.cell? ⟨x1, 0, none⟩ = some (.string ⟨⟨s⟩⟩)) (h2 : W.cell? ⟨x2, 0, none⟩ = some (.string ⟨⟨t⟩⟩)) (hs : wfN s) (ht : wfN t) {v : Int} (he : deedD d (fun l => moveC l s t) = (v, d')) :
    Calls Try.prog 109 #[.pointer (some ⟨x0, 0, none⟩), .pointer (some ⟨x1, 0, none⟩), .pointer (some ⟨x2, 0, none⟩)] W (LDone w W F g b (.int .i64 v) d') := by
  have Happ := L.move s t hs ht he
  clear L hs ht he
  go_enter Try.func109, Try.ntmps109
  go_wp2_with (go_at_call 40; refine Happ.mono ?_; rintro e w3 ⟨rfl, hd⟩; have Hd := Lib.hid hd; clear hd)
  go_ret
  exact ⟨rfl, Hd.out⟩

/-- What replace has laid: the row of its closures, their boxes, the bytes. -/
structure RepB (W : World) (F : Nat → Prop) (gr x0 x1 x2 x3 g : Nat) (s t : NmT) (A : Option Addr) (m c : Nat) (p : List Nat) : Prop where
  row : Blk W gr 88 #[.func (.func 106) #[] #[.pointer (some ⟨x0, 0, none⟩), .pointer (some ⟨x1, 0, none⟩)], .func (.func 107) #[] #[.pointer (some ⟨x0, 0, none⟩), .pointer (some ⟨x1, 0, none⟩), .pointer (some ⟨x2, 0, none⟩)], .func (.func 108) #[] #[.pointer (some ⟨x0, 0, none⟩), .pointer (some ⟨x1, 0, none⟩)], .func (.func 109) #[] #[.pointer (some ⟨x0, 0, none⟩), .pointer (some ⟨x1, 0, none⟩), .pointer (some ⟨x3, 0, none⟩)]]
  b0 : Blk W x0 54 #[.pointer (some ⟨g, 0, none⟩)]
  b1 : Blk W x1 9 #[.string ⟨⟨s⟩⟩]
  b2 : Blk W x2 22 #[.slice A m c]
  b3 : Blk W x3 9 #[.string ⟨⟨t⟩⟩]
  or_ : ¬ F gr
  o0 : ¬ F x0
  o1 : ¬ F x1
  o2 : ¬ F x2
  o3 : ¬ F x3
  sf : Safe W F A m p
theorem out_turn {W : World} {F F' : Nat → Prop} (hF : ∀ k, F' k → F k ∨ W.heap.size ≤ k) {k : Nat} (h : ¬ F k) (hk : k < W.heap.size) : ¬ F' k := fun e => (hF k e).elim h (by omega)
theorem RepB.turn {W W' : World} {F F' : Nat → Prop} {gr x0 x1 x2 x3 g : Nat} {s t : NmT} {A : Option Addr} {m c : Nat} {p : List Nat} (h : RepB W F gr x0 x1 x2 x3 g s t A m c p) (hT : Turn F W W') (hF : ∀ k, F' k → F k ∨ W.heap.size ≤ k) : RepB W' F' gr x0 x1 x2 x3 g s t A m c p :=
  ⟨hT.blk h.row h.or_, hT.blk h.b0 h.o0, hT.blk h.b1 h.o1, hT.blk h.b2 h.o2, hT.blk h.b3 h.o3, out_turn hF h.or_ h.row.lt, out_turn hF h.o0 h.b0.lt, out_turn hF h.o1 h.b1.lt, out_turn hF h.o2 h.b2.lt, out_turn hF h.o3 h.b3.lt, h.sf.turn hT hF⟩

theorem LDone.then {w W W1 w' : World} {F F1 : Nat → Prop} {g b : Nat} {d' : DkT} {v : Value} {e : Ending} (hF : ∀ k, F1 k → F k ∨ W.heap.size ≤ k) (hT : Turn F W W1) (h : LDone w W1 F1 g b v d' e w') : LDone w W F g b v d' e w' := by
  obtain ⟨h1, F', h2, h3, h4⟩ := h
  exact ⟨h1, F', h2, fun k hk => (h3 k hk).elim (hF k) fun h => .inr (Nat.le_trans hT.size h), hT.trans h4 hF⟩
set_option maxHeartbeats 4000000 in
theorem logfirst_any {w W : World} {F : Nat → Prop} {g b gr x0 x1 x2 x3 : Nat} {d d1 d2 d3 d4 : DkT} {s t : NmT} {A : Option Addr} {m c : Nat} {p : List Nat} (L : LS w W F g b d) (hR : RepB W F gr x0 x1 x2 x3 g s t A m c p) (hs : wfN s) (ht : wfN t) (hpl : p.length ≤ 1073741824) {v1 v2 v3 v4 : Int}
    (e1 : deedD d (fun l => remC l s) = (v1, d1)) (e2 : deedD d1 (fun l => appC d1.room l s p) = (v2, d2)) (e3 : deedD d2 (fun l => syncC l s) = (v3, d3)) (e4 : deedD d3 (fun l => moveC l s t) = (v4, d4)) :
    Calls Try.prog 110 #[.slice (some ⟨gr, 0, none⟩) 4 4] W (fun e w' => LDone w W F g b (.int .i64 (if (if v1 = 8 then 0 else v1) ≠ 0 then (if v1 = 8 then 0 else v1) else if v2 ≠ 0 then v2 else if v3 ≠ 0 then v3 else v4)) (if (if v1 = 8 then 0 else v1) ≠ 0 then d1 else if v2 ≠ 0 then d2 else if v3 ≠ 0 then d3 else d4) e w') := by
  have p1 := logrep1_any L (hR.b0.cell 0) (hR.b1.cell 0) hs e1
  have p2 := Lib.hid (fun W F (L : LS w W F g b d1) (hR : RepB W F gr x0 x1 x2 x3 g s t A m c p) => logrep2_any L (hR.b0.cell 0) (hR.b1.cell 0) A m c p (hR.b2.cell 0) hR.sf hpl hs e2)
  have p3 := Lib.hid (fun W F (L : LS w W F g b d2) (hR : RepB W F gr x0 x1 x2 x3 g s t A m c p) => logrep3_any L (hR.b0.cell 0) (hR.b1.cell 0) hs e3)
  have p4 := Lib.hid (fun W F (L : LS w W F g b d3) (hR : RepB W F gr x0 x1 x2 x3 g s t A m c p) => logrep4_any L (hR.b0.cell 0) (hR.b1.cell 0) (hR.b3.cell 0) hs ht e4)
  generalize (if v1 = 8 then 0 else v1) = u1 at *
  have HR := Lib.hid hR
  have c0 := hR.row.cell
  clear e1 e2 e3 e4 L hR hs ht hpl
  by_cases q1 : u1 = 0
  case neg =>
    have q1' : (u1 != 0) = true := by simp [q1]
    rw [if_pos q1, if_pos q1]
    go_enter Try.func110, Try.ntmps110
    go_wp2_with fail
    refine wp_loop_rounds 5 ?_
    rw [rounds_succ]
    go_wp2_with (go_at_call 106; refine p1.mono ?_; rintro e w3 ⟨rfl, hd⟩; have Hd := Lib.hid hd; clear hd)
    go_ret
    exact ⟨rfl, Hd.out⟩
  subst q1
  rw [if_neg (show ¬ ((0 : Int) ≠ 0) by simp), if_neg (show ¬ ((0 : Int) ≠ 0) by simp)]
  by_cases q2 : v2 = 0
  case neg =>
    have q2' : (v2 != 0) = true := by simp [q2]
    rw [if_pos q2, if_pos q2]
    go_enter Try.func110, Try.ntmps110
    go_wp2_with fail
    refine wp_loop_rounds 5 ?_
    rw [rounds_succ]
    go_wp2_with (go_at_call 106; refine p1.mono ?_; rintro e w3 ⟨rfl, F3, L3, h3, T3⟩; have R3 := HR.out.turn T3 h3; have k3 := R3.row.cell; have D3 := Lib.hid (And.intro h3 T3); clear h3 T3)
    rw [rounds_succ]
    go_wp2_with (go_at_call 107; refine (p2.out _ _ L3 R3).mono ?_; rintro e w4 ⟨rfl, F4, L4, h4, T4⟩; have R4 := R3.turn T4 h4; have k4 := R4.row.cell; have D4 := Lib.hid (And.intro (fun k hk => (h4 k hk).elim (D3.out.1 k) fun h => Or.inr (Nat.le_trans D3.out.2.size h)) (D3.out.2.trans T4 D3.out.1)); clear h4 T4)
    go_ret
    exact ⟨rfl, F4, L4, D4.out.1, D4.out.2⟩
  subst q2
  rw [if_neg (show ¬ ((0 : Int) ≠ 0) by simp), if_neg (show ¬ ((0 : Int) ≠ 0) by simp)]
  by_cases q3 : v3 = 0
  case neg =>
    have q3' : (v3 != 0) = true := by simp [q3]
    rw [if_pos q3, if_pos q3]
    go_enter Try.func110, Try.ntmps110
    go_wp2_with fail
    refine wp_loop_rounds 5 ?_
    rw [rounds_succ]
    go_wp2_with (go_at_call 106; refine p1.mono ?_; rintro e w3 ⟨rfl, F3, L3, h3, T3⟩; have R3 := HR.out.turn T3 h3; have k3 := R3.row.cell; have D3 := Lib.hid (And.intro h3 T3); clear h3 T3)
    rw [rounds_succ]
    go_wp2_with (go_at_call 107; refine (p2.out _ _ L3 R3).mono ?_; rintro e w4 ⟨rfl, F4, L4, h4, T4⟩; have R4 := R3.turn T4 h4; have k4 := R4.row.cell; have D4 := Lib.hid (And.intro (fun k hk => (h4 k hk).elim (D3.out.1 k) fun h => Or.inr (Nat.le_trans D3.out.2.size h)) (D3.out.2.trans T4 D3.out.1)); clear h4 T4)
    rw [rounds_succ]
    go_wp2_with (go_at_call 108; refine (p3.out _ _ L4 R4).mono ?_; rintro e w5 ⟨rfl, F5, L5, h5, T5⟩; have R5 := R4.turn T5 h5; have k5 := R5.row.cell; have D5 := Lib.hid (And.intro (fun k hk => (h5 k hk).elim (D4.out.1 k) fun h => Or.inr (Nat.le_trans D4.out.2.size h)) (D4.out.2.trans T5 D4.out.1)); clear h5 T5)
    go_ret
    exact ⟨rfl, F5, L5, D5.out.1, D5.out.2⟩
  subst q3
  rw [if_neg (show ¬ ((0 : Int) ≠ 0) by simp), if_neg (show ¬ ((0 : Int) ≠ 0) by simp)]
  by_cases q4 : v4 = 0
  case neg =>
    have q4' : (v4 != 0) = true := by simp [q4]
    go_enter Try.func110, Try.ntmps110
    go_wp2_with fail
    refine wp_loop_rounds 5 ?_
    rw [rounds_succ]
    go_wp2_with (go_at_call 106; refine p1.mono ?_; rintro e w3 ⟨rfl, F3, L3, h3, T3⟩; have R3 := HR.out.turn T3 h3; have k3 := R3.row.cell; have D3 := Lib.hid (And.intro h3 T3); clear h3 T3)
    rw [rounds_succ]
    go_wp2_with (go_at_call 107; refine (p2.out _ _ L3 R3).mono ?_; rintro e w4 ⟨rfl, F4, L4, h4, T4⟩; have R4 := R3.turn T4 h4; have k4 := R4.row.cell; have D4 := Lib.hid (And.intro (fun k hk => (h4 k hk).elim (D3.out.1 k) fun h => Or.inr (Nat.le_trans D3.out.2.size h)) (D3.out.2.trans T4 D3.out.1)); clear h4 T4)
    rw [rounds_succ]
    go_wp2_with (go_at_call 108; refine (p3.out _ _ L4 R4).mono ?_; rintro e w5 ⟨rfl, F5, L5, h5, T5⟩; have R5 := R4.turn T5 h5; have k5 := R5.row.cell; have D5 := Lib.hid (And.intro (fun k hk => (h5 k hk).elim (D4.out.1 k) fun h => Or.inr (Nat.le_trans D4.out.2.size h)) (D4.out.2.trans T5 D4.out.1)); clear h5 T5)
    rw [rounds_succ]
    go_wp2_with (go_at_call 109; refine (p4.out _ _ L5 R5).mono ?_; rintro e w6 ⟨rfl, F6, L6, h6, T6⟩; have D6 := Lib.hid (And.intro (fun k hk => (h6 k hk).elim (D5.out.1 k) fun h => Or.inr (Nat.le_trans D5.out.2.size h)) (D5.out.2.trans T6 D5.out.1)); clear h6 T6)
    go_ret
    exact ⟨rfl, F6, L6, D6.out.1, D6.out.2⟩
  subst q4
  go_enter Try.func110, Try.ntmps110
  go_wp2_with fail
  refine wp_loop_rounds 5 ?_
  rw [rounds_succ]
  go_wp2_with (go_at_call 106; refine p1.mono ?_; rintro e w3 ⟨rfl, F3, L3, h3, T3⟩; have R3 := HR.out.turn T3 h3; have k3 := R3.row.cell; have D3 := Lib.hid (And.intro h3 T3); clear h3 T3)
  rw [rounds_succ]
  go_wp2_with (go_at_call 107; refine (p2.out _ _ L3 R3).mono ?_; rintro e w4 ⟨rfl, F4, L4, h4, T4⟩; have R4 := R3.turn T4 h4; have k4 := R4.row.cell; have D4 := Lib.hid (And.intro (fun k hk => (h4 k hk).elim (D3.out.1 k) fun h => Or.inr (Nat.le_trans D3.out.2.size h)) (D3.out.2.trans T4 D3.out.1)); clear h4 T4)
  rw [rounds_succ]
  go_wp2_with (go_at_call 108; refine (p3.out _ _ L4 R4).mono ?_; rintro e w5 ⟨rfl, F5, L5, h5, T5⟩; have R5 := R4.turn T5 h5; have k5 := R5.row.cell; have D5 := Lib.hid (And.intro (fun k hk => (h5 k hk).elim (D4.out.1 k) fun h => Or.inr (Nat.le_trans D4.out.2.size h)) (D4.out.2.trans T5 D4.out.1)); clear h5 T5)
  rw [rounds_succ]
  go_wp2_with (go_at_call 109; refine (p4.out _ _ L5 R5).mono ?_; rintro e w6 ⟨rfl, F6, L6, h6, T6⟩; have D6 := Lib.hid (And.intro (fun k hk => (h6 k hk).elim (D5.out.1 k) fun h => Or.inr (Nat.le_trans D5.out.2.size h)) (D5.out.2.trans T6 D5.out.1)); clear h6 T6)
  rw [rounds_succ]
  go_wp2_with fail
  go_ret
  exact ⟨rfl, F6, L6, D6.out.1, D6.out.2⟩
end Go.Proofs.Ytpdlhcfepafjeaa
