/- The walk of the law CmdItems. -/
import Derived.Test.YtekbebekihcnpaaDoorTakeAny
import Derived.Test.YtekbebekihcnpaaDoorGreat
import Derived.Test.YtekbebekihcnpaaDoorAwake06
import Derived.Test.YtekbebekihcnpaaDoorCodec
namespace Go.Proofs.YtekbebekihcnpaaDoor
open Go.RowKit
set_option linter.unusedVariables false
set_option linter.unusedSimpArgs false
set_option maxRecDepth 20000
attribute [local go_sem ↓] Go.wp_at_zero Go.wp_at_succ
attribute [local go_sem] World.cell?_alloc_some frozen_alloc_some
attribute [local go_sem ↓ high] cmd_neq_run cmd_eql_run

theorem bk_drew {w : World} {g : Nat} {e : TypeId} {cs : Array Value} (h : Blk w g e cs) : Blk w.drew g e cs := h
theorem hk_drew {w : World} {t : Tree} {v : Value} (h : Holds w t v) : Holds w.drew t v := Holds.keep (Below.drew (Below.refl _ _)) h
theorem RowI.keep {w w' : World} {base : Nat} {v : Value} {m : Nat} {l : List Tree} (h : RowI w base v m l) (hb : Below w.heap.size w w') : RowI w' base v m l := by
  obtain ⟨h1, vs, h2, h3⟩ := h
  exact ⟨h1, vs, World.ownsRow.kept h2 (grown_of_below hb none) (by cases v.ownBlock <;> simp), fun i t hi => Holds.keep hb (h3 i t hi)⟩

set_option maxHeartbeats 8000000 in
theorem items_great (ka ca qa : Int) (ya xa : ByteArray) (ra : Int) (t : Tree) (xk xn : Int) (xs : ByteArray) (xA : Option Addr) (xm xc : Nat) (w : World) (hT : Tabs w) (hv : Holds w t (.agg #[.int .i64 xk, .int .u64 xn, .string xs, .slice xA xm xc])) (hsz : tsize t ≤ 1048576) (hg : cgreat ya xa = true ∨ 300 < csize 300 40 t) :
    Calls Tryd.prog 5 #[.agg #[.int .i64 ka, .int .i64 ca, .int .i64 qa, .string ya, .string xa, .int .i64 ra], .agg #[.int .i64 xk, .int .u64 xn, .string xs, .slice xA xm xc]] w (Gives w (.bool true)) := by
  have AW : ∀ W, Below w.heap.size w W → Calls Tryd.prog 9 #[] W (Gives W (.bool true)) := fun W h => awake06 W (hT.keep h)
  have sz : ∀ W, Below w.heap.size w W → Calls Tryd.prog 16 #[.agg #[.int .i64 xk, .int .u64 xn, .string xs, .slice xA xm xc], .int .i64 300, .int .i64 40] W (Gives W (.int .i64 (csize 300 40 t : Int))) := fun W h => refsize_any 300 (by decide) 40 t _ W (Holds.keep h hv) hsz (by decide)
  have ga := fun W => great_any ka ca qa ya xa ra W
  generalize csize 300 40 t = z at *
  generalize cgreat ya xa = g at *
  clear hT hv hsz
  cases g
  · have hz : (300 : Int) < (z : Int) := by rcases hg with h | h; cases h; omega
    clear hg
    go_enter Tryd.func5, Tryd.ntmps5
    go_wp2_with fail
    refine (ga _).mono ?_
    rintro e w1 ⟨rfl, hb1⟩
    have z1 := hb1.size
    (try simp at z1)
    have k1 : Below w.heap.size w w1 := by ((repeat' first | with_reducible exact Below.refl _ _ | with_reducible assumption | with_reducible refine Below.alloc ?_ ?_ _ | with_reducible refine Below.setCell ?_ ?_ _ | with_reducible apply Below.drew | with_reducible apply below_drewN | with_reducible refine below_call ?_ (by with_reducible assumption) ?_) <;> (first | omega | (simp; done) | (simp; omega) | (simp at *; omega)))
    have b0 : Blk w1 w.heap.size 23 #[.int .i64 ka, .int .i64 ca, .int .i64 qa, .string ya, .string xa, .int .i64 ra] := Blk.keep (w := ((w.alloc (.cells #[.int .i64 ka, .int .i64 ca, .int .i64 qa, .string ya, .string xa, .int .i64 ra] 23)).alloc (.cells #[.int .i64 xk, .int .u64 xn, .string xs, .slice xA xm xc] 33))) ((Blk.new w 23 #[.int .i64 ka, .int .i64 ca, .int .i64 qa, .string ya, .string xa, .int .i64 ra]).alloc _) hb1
    have b1 : Blk w1 (w.heap.size + 1) 33 #[.int .i64 xk, .int .u64 xn, .string xs, .slice xA xm xc] := Blk.keep (w := ((w.alloc (.cells #[.int .i64 ka, .int .i64 ca, .int .i64 qa, .string ya, .string xa, .int .i64 ra] 23)).alloc (.cells #[.int .i64 xk, .int .u64 xn, .string xs, .slice xA xm xc] 33))) (by have h := Blk.new (w.alloc (.cells #[.int .i64 ka, .int .i64 ca, .int .i64 qa, .string ya, .string xa, .int .i64 ra] 23)) 33 #[.int .i64 xk, .int .u64 xn, .string xs, .slice xA xm xc]; simp only [World.size_alloc] at h; exact h) hb1
    have c01 := b0.cell
    have c11 := b1.cell
    go_wp2_with fail
    refine (sz _ k1).mono ?_
    rintro e w2 ⟨rfl, hb2⟩
    have z2 := hb2.size
    have k2 := below_call k1 hb2 k1.size
    replace b0 := b0.keep hb2
    replace b1 := b1.keep hb2
    have c02 := b0.cell
    have c12 := b1.cell
    go_wp2_with fail
    refine (AW _ k2).mono ?_
    rintro e w3 ⟨rfl, hb3⟩
    have z3 := hb3.size
    have k3 := below_call k2 hb3 k2.size
    replace b0 := b0.keep hb3
    replace b1 := b1.keep hb3
    have c03 := b0.cell
    have c13 := b1.cell
    go_wp2_with fail
    go_ret
    exact ⟨rfl, k3⟩
  · clear hg
    go_enter Tryd.func5, Tryd.ntmps5
    go_wp2_with fail
    refine (ga _).mono ?_
    rintro e w1 ⟨rfl, hb1⟩
    have z1 := hb1.size
    (try simp at z1)
    have k1 : Below w.heap.size w w1 := by ((repeat' first | with_reducible exact Below.refl _ _ | with_reducible assumption | with_reducible refine Below.alloc ?_ ?_ _ | with_reducible refine Below.setCell ?_ ?_ _ | with_reducible apply Below.drew | with_reducible apply below_drewN | with_reducible refine below_call ?_ (by with_reducible assumption) ?_) <;> (first | omega | (simp; done) | (simp; omega) | (simp at *; omega)))
    have b0 : Blk w1 w.heap.size 23 #[.int .i64 ka, .int .i64 ca, .int .i64 qa, .string ya, .string xa, .int .i64 ra] := Blk.keep (w := ((w.alloc (.cells #[.int .i64 ka, .int .i64 ca, .int .i64 qa, .string ya, .string xa, .int .i64 ra] 23)).alloc (.cells #[.int .i64 xk, .int .u64 xn, .string xs, .slice xA xm xc] 33))) ((Blk.new w 23 #[.int .i64 ka, .int .i64 ca, .int .i64 qa, .string ya, .string xa, .int .i64 ra]).alloc _) hb1
    have b1 : Blk w1 (w.heap.size + 1) 33 #[.int .i64 xk, .int .u64 xn, .string xs, .slice xA xm xc] := Blk.keep (w := ((w.alloc (.cells #[.int .i64 ka, .int .i64 ca, .int .i64 qa, .string ya, .string xa, .int .i64 ra] 23)).alloc (.cells #[.int .i64 xk, .int .u64 xn, .string xs, .slice xA xm xc] 33))) (by have h := Blk.new (w.alloc (.cells #[.int .i64 ka, .int .i64 ca, .int .i64 qa, .string ya, .string xa, .int .i64 ra] 23)) 33 #[.int .i64 xk, .int .u64 xn, .string xs, .slice xA xm xc]; simp only [World.size_alloc] at h; exact h) hb1
    have c01 := b0.cell
    have c11 := b1.cell
    go_wp2_with fail
    refine (AW _ k1).mono ?_
    rintro e w2 ⟨rfl, hb2⟩
    have z2 := hb2.size
    have k2 := below_call k1 hb2 k1.size
    replace b0 := b0.keep hb2
    replace b1 := b1.keep hb2
    have c02 := b0.cell
    have c12 := b1.cell
    go_wp2_with fail
    go_ret
    exact ⟨rfl, k2⟩
set_option maxHeartbeats 16000000 in
theorem items_wrong (ka ca qa : Int) (ya xa : ByteArray) (ra : Int) (t : Tree) (xk xn : Int) (xs : ByteArray) (xA : Option Addr) (xm xc : Nat) (w : World) (hT : Tabs w) (hv : Holds w t (.agg #[.int .i64 xk, .int .u64 xn, .string xs, .slice xA xm xc])) (hsz : tsize t ≤ 1048576) (hg : cgreat ya xa = false) (hc : ¬ 300 < csize 300 40 t) (hy : ya.size ≤ 1000000000) (hE : ccheck ka ca qa ya xa ra ≠ 0) :
    Calls Tryd.prog 5 #[.agg #[.int .i64 ka, .int .i64 ca, .int .i64 qa, .string ya, .string xa, .int .i64 ra], .agg #[.int .i64 xk, .int .u64 xn, .string xs, .slice xA xm xc]] w (Gives w (.bool true)) := by
  have AW : ∀ W, Below w.heap.size w W → Calls Tryd.prog 9 #[] W (Gives W (.bool true)) := fun W h => awake06 W (hT.keep h)
  have sz : ∀ W, Below w.heap.size w W → Calls Tryd.prog 16 #[.agg #[.int .i64 xk, .int .u64 xn, .string xs, .slice xA xm xc], .int .i64 300, .int .i64 40] W (Gives W (.int .i64 (csize 300 40 t : Int))) := fun W h => refsize_any 300 (by decide) 40 t _ W (Holds.keep h hv) hsz (by decide)
  have ga := fun W => great_any ka ca qa ya xa ra W
  rw [hg] at ga
  have ck : ∀ W, Calls Tryd.prog 11 #[.agg #[.int .i64 ka, .int .i64 ca, .int .i64 qa, .string ya, .string xa, .int .i64 ra]] W (Gives W (.int .i64 (ccheck ka ca qa ya xa ra : Int))) := fun W => by rw [ccheck_eq]; exact dcheck_any ka ca qa ya xa ra W hy
  have hE' : ((ccheck ka ca qa ya xa ra : Int) == 0) = false := by simp; omega
  have hz : ¬ (300 : Int) < (csize 300 40 t : Int) := by omega
  obtain ⟨dk, dc, dq, dy, dx, dr, b, tk1, tk2⟩ := takes_any t _ w hv hT hsz
  have hself : ceq dk dc dq dy dx dr dk dc dq dy dx dr = true := ceq_iff.2 ⟨rfl, rfl, rfl, rfl, rfl, rfl⟩
  generalize csize 300 40 t = z at *
  generalize ccheck ka ca qa ya xa ra = E at *
  clear hT hv hsz hc hE
  go_enter Tryd.func5, Tryd.ntmps5
  go_wp2_with fail
  refine (ga _).mono ?_
  rintro e w1 ⟨rfl, hb1⟩
  have z1 := hb1.size
  (try simp at z1)
  have k1 : Below w.heap.size w w1 := by ((repeat' first | with_reducible exact Below.refl _ _ | with_reducible assumption | with_reducible refine Below.alloc ?_ ?_ _ | with_reducible refine Below.setCell ?_ ?_ _ | with_reducible apply Below.drew | with_reducible apply below_drewN | with_reducible refine below_call ?_ (by with_reducible assumption) ?_) <;> (first | omega | (simp; done) | (simp; omega) | (simp at *; omega)))
  have b0 : Blk w1 w.heap.size 23 #[.int .i64 ka, .int .i64 ca, .int .i64 qa, .string ya, .string xa, .int .i64 ra] := Blk.keep (w := ((w.alloc (.cells #[.int .i64 ka, .int .i64 ca, .int .i64 qa, .string ya, .string xa, .int .i64 ra] 23)).alloc (.cells #[.int .i64 xk, .int .u64 xn, .string xs, .slice xA xm xc] 33))) ((Blk.new w 23 #[.int .i64 ka, .int .i64 ca, .int .i64 qa, .string ya, .string xa, .int .i64 ra]).alloc _) hb1
  have b1 : Blk w1 (w.heap.size + 1) 33 #[.int .i64 xk, .int .u64 xn, .string xs, .slice xA xm xc] := Blk.keep (w := ((w.alloc (.cells #[.int .i64 ka, .int .i64 ca, .int .i64 qa, .string ya, .string xa, .int .i64 ra] 23)).alloc (.cells #[.int .i64 xk, .int .u64 xn, .string xs, .slice xA xm xc] 33))) (by have h := Blk.new (w.alloc (.cells #[.int .i64 ka, .int .i64 ca, .int .i64 qa, .string ya, .string xa, .int .i64 ra] 23)) 33 #[.int .i64 xk, .int .u64 xn, .string xs, .slice xA xm xc]; simp only [World.size_alloc] at h; exact h) hb1
  have c01 := b0.cell
  have c11 := b1.cell
  go_wp2_with fail
  refine (sz _ k1).mono ?_
  rintro e w2 ⟨rfl, hb2⟩
  have z2 := hb2.size
  have k2 := below_call k1 hb2 k1.size
  replace b0 := b0.keep hb2
  replace b1 := b1.keep hb2
  have c02 := b0.cell
  have c12 := b1.cell
  go_wp2_with fail
  refine (ck _).mono ?_
  rintro e w3 ⟨rfl, hb3⟩
  have z3 := hb3.size
  have k3 := below_call k2 hb3 k2.size
  replace b0 := b0.keep hb3
  replace b1 := b1.keep hb3
  have c03 := b0.cell
  have c13 := b1.cell
  go_wp2_with fail
  refine (tk1 _ k3).mono ?_
  rintro e w4 ⟨rfl, hb4⟩
  have z4 := hb4.size
  have k4 := below_call k3 hb4 k3.size
  replace b1 := b1.keep hb4
  have c14 := b1.cell
  go_wp2_with fail
  refine (tk2 _ (k4.alloc k4.size _)).mono ?_
  rintro e w5 ⟨rfl, hb5⟩
  have z5 := hb5.size
  have k5 := below_call (k4.alloc k4.size (.cells #[.int .i64 dk, .int .i64 dc, .int .i64 dq, .string dy, .string dx, .int .i64 dr] 23)) hb5 (by simp; have := k4.size; omega)
  have b8 : Blk w5 w4.heap.size 23 #[.int .i64 dk, .int .i64 dc, .int .i64 dq, .string dy, .string dx, .int .i64 dr] := Blk.keep (w := (w4.alloc (.cells #[.int .i64 dk, .int .i64 dc, .int .i64 dq, .string dy, .string dx, .int .i64 dr] 23))) (Blk.new w4 23 #[.int .i64 dk, .int .i64 dc, .int .i64 dq, .string dy, .string dx, .int .i64 dr]) hb5
  have c8 := (b8.alloc (.cells #[.int .i64 dk, .int .i64 dc, .int .i64 dq, .string dy, .string dx, .int .i64 dr] 23)).cell
  go_wp2_with fail
  refine (AW _ (k5.alloc k5.size _)).mono ?_
  rintro e w6 ⟨rfl, hb6⟩
  have k6 := below_call (k5.alloc k5.size (.cells #[.int .i64 dk, .int .i64 dc, .int .i64 dq, .string dy, .string dx, .int .i64 dr] 23)) hb6 (by simp; have := k5.size; omega)
  go_wp2_with fail
  go_ret
  exact ⟨rfl, k6⟩
set_option maxHeartbeats 16000000 in
theorem items_right (kn cn qn : Nat) (ya xa : ByteArray) (rn : Nat) (t : Tree) (xk xn : Int) (xs : ByteArray) (xA : Option Addr) (xm xc : Nat) (w : World) (hT : Tabs w) (hv : Holds w t (.agg #[.int .i64 xk, .int .u64 xn, .string xs, .slice xA xm xc])) (hsz : tsize t ≤ 1048576) (hg : cgreat ya xa = false) (hc : ¬ 300 < csize 300 40 t) (hy : ya.size ≤ 1000000000) (hx : xa.size ≤ maxLen) (hE : ccheck (kn : Int) (cn : Int) (qn : Int) ya xa (rn : Int) = 0) :
    Calls Tryd.prog 5 #[.agg #[.int .i64 (kn : Int), .int .i64 (cn : Int), .int .i64 (qn : Int), .string ya, .string xa, .int .i64 (rn : Int)], .agg #[.int .i64 xk, .int .u64 xn, .string xs, .slice xA xm xc]] w (Gives w (.bool true)) := by
  have AW : ∀ W, Below w.heap.size w W → Calls Tryd.prog 9 #[] W (Gives W (.bool true)) := fun W h => awake06 W (hT.keep h)
  have sz : ∀ W, Below w.heap.size w W → Calls Tryd.prog 16 #[.agg #[.int .i64 xk, .int .u64 xn, .string xs, .slice xA xm xc], .int .i64 300, .int .i64 40] W (Gives W (.int .i64 (csize 300 40 t : Int))) := fun W h => refsize_any 300 (by decide) 40 t _ W (Holds.keep h hv) hsz (by decide)
  have ga := fun W => great_any (kn : Int) (cn : Int) (qn : Int) ya xa (rn : Int) W
  rw [hg] at ga
  obtain ⟨hr0, hr1, hr2, hr3, hr4, hr5, hr6, hr7⟩ := ccheck_right hE
  have hy2 : ya.size ≤ maxLen := by unfold maxLen; omega
  have ck : ∀ W, Calls Tryd.prog 11 #[.agg #[.int .i64 (kn : Int), .int .i64 (cn : Int), .int .i64 (qn : Int), .string ya, .string xa, .int .i64 (rn : Int)]] W (Gives W (.int .i64 0)) := fun W => by
    have h := dcheck_any (kn : Int) (cn : Int) (qn : Int) ya xa (rn : Int) W hy
    rw [← ccheck_eq, hE] at h
    exact h
  have it := fun W => cmditem_any kn cn qn ya xa rn (by omega) (by omega) (by omega) hy2 hx (by omega) W
  have rit := fun W => refitem_any kn cn qn ya xa rn (by omega) (by omega) (by omega) hy2 hx (by omega) W
  have tb := fun (A : Option Addr) (cc base : Nat) W (h : Below w.heap.size w W) hrow => takeback_any kn cn qn ya xa rn A cc base W (hT.keep h) hrow hy2 hx hE
  have hsm : ∀ (W : World) (A9 : Option Addr) (c9 g9 : Nat), Holds W (ctree kn cn qn ya xa rn) (.agg #[.int .i64 2, .int .u64 ((0 : Nat) : Int), .string ByteArray.empty, .slice A9 6 c9]) → Items W (some ⟨g9, 0, none⟩) 6 6 [.mk 0 kn ByteArray.empty [], .mk 0 cn ByteArray.empty [], .mk 0 qn ByteArray.empty [], .mk 1 0 ya [], .mk 1 0 xa [], .mk 0 rn ByteArray.empty []] → Calls Tryd.prog 19 #[.agg #[.int .i64 2, .int .u64 0, .string ByteArray.empty, .slice A9 6 c9], .agg #[.int .i64 2, .int .u64 0, .string ByteArray.empty, .slice (some ⟨g9, 0, none⟩) 6 6]] W (Gives W (.bool true)) := fun W A9 c9 g9 h1 h2 => by
    have h := codecsame_any (ctree kn cn qn ya xa rn) (ctree kn cn qn ya xa rn) _ _ W h1 (h2.node (k := 2) (n := 0) (s := ByteArray.empty) (by decide) (by decide) (by decide))
    rw [tsame_self] at h
    exact h
  have hselfa : ceq (kn : Int) (cn : Int) (qn : Int) ya xa (rn : Int) (kn : Int) (cn : Int) (qn : Int) ya xa (rn : Int) = true := ceq_iff.2 ⟨rfl, rfl, rfl, rfl, rfl, rfl⟩
  have hz : ¬ (300 : Int) < (csize 300 40 t : Int) := by omega
  obtain ⟨dk, dc, dq, dy, dx, dr, b, tk1, tk2⟩ := takes_any t _ w hv hT hsz
  have hself : ceq dk dc dq dy dx dr dk dc dq dy dx dr = true := ceq_iff.2 ⟨rfl, rfl, rfl, rfl, rfl, rfl⟩
  generalize csize 300 40 t = z at *
  clear hT hv hsz hc hE hr0 hr1 hr2 hr3 hr4 hr5 hr6 hr7
  go_enter Tryd.func5, Tryd.ntmps5
  go_wp2_with fail
  refine (ga _).mono ?_
  rintro e w1 ⟨rfl, hb1⟩
  have z1 := hb1.size
  (try simp at z1)
  have k1 : Below w.heap.size w w1 := by ((repeat' first | with_reducible exact Below.refl _ _ | with_reducible assumption | with_reducible refine Below.alloc ?_ ?_ _ | with_reducible refine Below.setCell ?_ ?_ _ | with_reducible apply Below.drew | with_reducible apply below_drewN | with_reducible refine below_call ?_ (by with_reducible assumption) ?_) <;> (first | omega | (simp; done) | (simp; omega) | (simp at *; omega)))
  have b0 : Blk w1 w.heap.size 23 #[.int .i64 (kn : Int), .int .i64 (cn : Int), .int .i64 (qn : Int), .string ya, .string xa, .int .i64 (rn : Int)] := Blk.keep (w := ((w.alloc (.cells #[.int .i64 (kn : Int), .int .i64 (cn : Int), .int .i64 (qn : Int), .string ya, .string xa, .int .i64 (rn : Int)] 23)).alloc (.cells #[.int .i64 xk, .int .u64 xn, .string xs, .slice xA xm xc] 33))) ((Blk.new w 23 #[.int .i64 (kn : Int), .int .i64 (cn : Int), .int .i64 (qn : Int), .string ya, .string xa, .int .i64 (rn : Int)]).alloc _) hb1
  have b1 : Blk w1 (w.heap.size + 1) 33 #[.int .i64 xk, .int .u64 xn, .string xs, .slice xA xm xc] := Blk.keep (w := ((w.alloc (.cells #[.int .i64 (kn : Int), .int .i64 (cn : Int), .int .i64 (qn : Int), .string ya, .string xa, .int .i64 (rn : Int)] 23)).alloc (.cells #[.int .i64 xk, .int .u64 xn, .string xs, .slice xA xm xc] 33))) (by have h := Blk.new (w.alloc (.cells #[.int .i64 (kn : Int), .int .i64 (cn : Int), .int .i64 (qn : Int), .string ya, .string xa, .int .i64 (rn : Int)] 23)) 33 #[.int .i64 xk, .int .u64 xn, .string xs, .slice xA xm xc]; simp only [World.size_alloc] at h; exact h) hb1
  have c01 := b0.cell
  have c11 := b1.cell
  go_wp2_with fail
  refine (sz _ k1).mono ?_
  rintro e w2 ⟨rfl, hb2⟩
  have z2 := hb2.size
  have k2 := below_call k1 hb2 k1.size
  replace b0 := b0.keep hb2
  replace b1 := b1.keep hb2
  have c02 := b0.cell
  have c12 := b1.cell
  go_wp2_with fail
  refine (ck _).mono ?_
  rintro e w3 ⟨rfl, hb3⟩
  have z3 := hb3.size
  have k3 := below_call k2 hb3 k2.size
  replace b0 := b0.keep hb3
  replace b1 := b1.keep hb3
  have c03 := b0.cell
  have c13 := b1.cell
  go_wp2_with fail
  refine (it _).mono ?_
  rintro e w4 ⟨A9, c9, rfl, hrow, hb4⟩
  have z4 := hb4.size
  have k4 := below_call k3 hb4 k3.size
  replace b0 := b0.keep hb4
  replace b1 := b1.keep hb4
  have c04 := b0.cell
  have c14 := b1.cell
  go_wp2_with fail
  have hrow5 := hrow
  have hbY := below_one (w := w4) (.cells #[.int .i64 2, .int .u64 0, .string ByteArray.empty, .slice A9 6 c9] 33)
  have hrow5 := hrow.keep hbY
  refine (tb A9 c9 _ _ (k4.alloc k4.size (.cells #[.int .i64 2, .int .u64 0, .string ByteArray.empty, .slice A9 6 c9] 33)) hrow5).mono ?_
  rintro e w5 ⟨rfl, hb5⟩
  have z5 := hb5.size
  (try simp at z5)
  have k5 := below_call (k4.alloc k4.size (.cells #[.int .i64 2, .int .u64 0, .string ByteArray.empty, .slice A9 6 c9] 33)) hb5 (by simp; have := k4.size; omega)
  replace b0 : Blk w5 w.heap.size 23 #[.int .i64 (kn : Int), .int .i64 (cn : Int), .int .i64 (qn : Int), .string ya, .string xa, .int .i64 (rn : Int)] := Blk.keep (w := (w4.alloc (.cells #[.int .i64 2, .int .u64 0, .string ByteArray.empty, .slice A9 6 c9] 33))) (b0.alloc _) hb5
  replace b1 : Blk w5 (w.heap.size + 1) 33 #[.int .i64 xk, .int .u64 xn, .string xs, .slice xA xm xc] := Blk.keep (w := (w4.alloc (.cells #[.int .i64 2, .int .u64 0, .string ByteArray.empty, .slice A9 6 c9] 33))) (b1.alloc _) hb5
  have bY : Blk w5 w4.heap.size 33 #[.int .i64 2, .int .u64 0, .string ByteArray.empty, .slice A9 6 c9] := Blk.keep (w := (w4.alloc (.cells #[.int .i64 2, .int .u64 0, .string ByteArray.empty, .slice A9 6 c9] 33))) (Blk.new w4 33 #[.int .i64 2, .int .u64 0, .string ByteArray.empty, .slice A9 6 c9]) hb5
  have c05 := b0.cell
  have c15 := b1.cell
  have cY5 := bY.cell
  have hY : Holds w5 (ctree kn cn qn ya xa rn) (.agg #[.int .i64 2, .int .u64 ((0 : Nat) : Int), .string ByteArray.empty, .slice A9 6 c9]) := Holds.keep hb5 (hrow5.items.2.node (by decide) (by decide) (by decide))
  clear hrow hrow5
  go_wp2_with fail
  have B0 : Blk (w5.alloc (.cells #[.int .i64 (kn : Int), .int .i64 (cn : Int), .int .i64 (qn : Int), .string ya, .string xa, .int .i64 (rn : Int)] 23)) w.heap.size 23 #[.int .i64 (kn : Int), .int .i64 (cn : Int), .int .i64 (qn : Int), .string ya, .string xa, .int .i64 (rn : Int)] := b0.alloc _
  have B1 : Blk (w5.alloc (.cells #[.int .i64 (kn : Int), .int .i64 (cn : Int), .int .i64 (qn : Int), .string ya, .string xa, .int .i64 (rn : Int)] 23)) (w.heap.size + 1) 33 #[.int .i64 xk, .int .u64 xn, .string xs, .slice xA xm xc] := b1.alloc _
  have BY : Blk (w5.alloc (.cells #[.int .i64 (kn : Int), .int .i64 (cn : Int), .int .i64 (qn : Int), .string ya, .string xa, .int .i64 (rn : Int)] 23)) w4.heap.size 33 #[.int .i64 2, .int .u64 0, .string ByteArray.empty, .slice A9 6 c9] := bY.alloc _
  have BD : Blk (w5.alloc (.cells #[.int .i64 (kn : Int), .int .i64 (cn : Int), .int .i64 (qn : Int), .string ya, .string xa, .int .i64 (rn : Int)] 23)) w5.heap.size 23 #[.int .i64 (kn : Int), .int .i64 (cn : Int), .int .i64 (qn : Int), .string ya, .string xa, .int .i64 (rn : Int)] := Blk.new w5 23 #[.int .i64 (kn : Int), .int .i64 (cn : Int), .int .i64 (qn : Int), .string ya, .string xa, .int .i64 (rn : Int)]
  have HY : Holds (w5.alloc (.cells #[.int .i64 (kn : Int), .int .i64 (cn : Int), .int .i64 (qn : Int), .string ya, .string xa, .int .i64 (rn : Int)] 23)) (ctree kn cn qn ya xa rn) (.agg #[.int .i64 2, .int .u64 ((0 : Nat) : Int), .string ByteArray.empty, .slice A9 6 c9]) := Holds.keep (below_one _) hY
  have K6 : Below w.heap.size w (w5.alloc (.cells #[.int .i64 (kn : Int), .int .i64 (cn : Int), .int .i64 (qn : Int), .string ya, .string xa, .int .i64 (rn : Int)] 23)) := k5.alloc k5.size _
  have e0 := B0.cell
  have eY := BY.cell
  first | (go_region_law (first | (go_simp; go_at_call 20; (with_reducible refine (rit _).mono ?_); rintro e w1 ⟨g9, rfl, hit9, hb1⟩; have hz1 := hb1.size; (try simp at hz1); have HY := Holds.keep hb1 (by first | exact HY | exact hk_drew HY); have K6 := below_call (by first | exact K6 | exact K6.drew) hb1 (by first | exact K6.size | exact K6.drew.size); have B0 := Blk.keep (by first | exact B0 | exact bk_drew B0) hb1; have B1 := Blk.keep (by first | exact B1 | exact bk_drew B1) hb1; have BY := Blk.keep (by first | exact BY | exact bk_drew BY) hb1; have BD := Blk.keep (by first | exact BD | exact bk_drew BD) hb1; have e0 := B0.cell; have eY := BY.cell; have eD := BD.cell) | (go_simp; go_at_call 19; (with_reducible refine (hsm _ A9 c9 g9 HY hit9).mono ?_); rintro e w1 ⟨rfl, hb1⟩; have hz2 := hb1.size; have K6 := below_call K6 hb1 K6.size; have B0 := B0.keep hb1; have B1 := B1.keep hb1; have BD := BD.keep hb1; have e0 := B0.cell; have e1 := B1.cell; have eD := BD.cell))) | fail
  all_goals
    go_wp2_with fail
    refine (tk1 _ K6).mono ?_
    rintro e w8 ⟨rfl, hb8⟩
    have z8 := hb8.size
    have k8 := below_call K6 hb8 K6.size
    have b1 := B1.keep hb8
    have c18 := b1.cell
    go_wp2_with fail
    refine (tk2 _ (k8.alloc k8.size _)).mono ?_
    rintro e w9 ⟨rfl, hb9⟩
    have z9 := hb9.size
    have k9 := below_call (k8.alloc k8.size (.cells #[.int .i64 dk, .int .i64 dc, .int .i64 dq, .string dy, .string dx, .int .i64 dr] 23)) hb9 (by simp; have := k8.size; omega)
    have b8 : Blk w9 w8.heap.size 23 #[.int .i64 dk, .int .i64 dc, .int .i64 dq, .string dy, .string dx, .int .i64 dr] := Blk.keep (w := (w8.alloc (.cells #[.int .i64 dk, .int .i64 dc, .int .i64 dq, .string dy, .string dx, .int .i64 dr] 23))) (Blk.new w8 23 #[.int .i64 dk, .int .i64 dc, .int .i64 dq, .string dy, .string dx, .int .i64 dr]) hb9
    have c8 := (b8.alloc (.cells #[.int .i64 dk, .int .i64 dc, .int .i64 dq, .string dy, .string dx, .int .i64 dr] 23)).cell
    go_wp2_with fail
    refine (AW _ (k9.alloc k9.size _)).mono ?_
    rintro e w10 ⟨rfl, hb10⟩
    have k10 := below_call (k9.alloc k9.size (.cells #[.int .i64 dk, .int .i64 dc, .int .i64 dq, .string dy, .string dx, .int .i64 dr] 23)) hb10 (by simp; have := k9.size; omega)
    go_wp2_with fail
    go_ret
    exact ⟨rfl, k10⟩
theorem items_walk (ka ca qa : Int) (ya xa : ByteArray) (ra : Int) (t : Tree) (v : Value) (w : World) (hT : Tabs w) (hv : Holds w t v) (hsz : tsize t ≤ 1048576) :
    Calls Tryd.prog 5 #[.agg #[.int .i64 ka, .int .i64 ca, .int .i64 qa, .string ya, .string xa, .int .i64 ra], v] w (Gives w (.bool true)) := by
  obtain ⟨kk, nn, ss, l⟩ := t
  have hv2 := hv
  obtain ⟨A, m, cc, rfl, _⟩ := hv2.open_
  by_cases hg : cgreat ya xa = true ∨ 300 < csize 300 40 (.mk kk nn ss l)
  · exact items_great ka ca qa ya xa ra _ _ _ _ _ _ _ w hT hv hsz hg
  · have g1 : cgreat ya xa = false := by cases h : cgreat ya xa <;> simp_all
    have hc : ¬ 300 < csize 300 40 (.mk kk nn ss l) := fun h => hg (.inr h)
    have hs : ya.size ≤ 200 ∧ xa.size ≤ 2000 := by unfold cgreat at g1; simp at g1; omega
    by_cases hE : ccheck ka ca qa ya xa ra = 0
    · obtain ⟨hr0, hr1, hr2, hr3, hr4, hr5, hr6, hr7⟩ := ccheck_right hE
      obtain ⟨kn, rfl⟩ : ∃ n : Nat, ka = n := ⟨ka.toNat, by omega⟩
      obtain ⟨cn, rfl⟩ : ∃ n : Nat, ca = n := ⟨ca.toNat, by omega⟩
      obtain ⟨qn, rfl⟩ : ∃ n : Nat, qa = n := ⟨qa.toNat, by omega⟩
      obtain ⟨rn, rfl⟩ : ∃ n : Nat, ra = n := ⟨ra.toNat, by omega⟩
      exact items_right kn cn qn ya xa rn _ _ _ _ _ _ _ w hT hv hsz g1 hc (by omega) (by unfold maxLen; omega) hE
    · exact items_wrong ka ca qa ya xa ra _ _ _ _ _ _ _ w hT hv hsz g1 hc (by omega) hE
end Go.Proofs.YtekbebekihcnpaaDoor
