/- The walk of the law RecPromise. -/
import Derived.Test.YtmgiholmhhjpaaaDoorRecChecksQ49
import Derived.Test.YtmgiholmhhjpaaaDoorRecChecksQ48
import Derived.WalkKit
import Derived.WalkSpells
import Derived.WalkLawsBesides
import Derived.Deep.RegionHeld3
import Derived.Deep.DrawnRows
import Derived.Deep.DeepCutAuto
import Derived.Deep.DeepFit
import Derived.Lib.Hide
import Derived.BigQuiet
import Derived.Deep.QuietTactic
namespace Go.Proofs.YtmgiholmhhjpaaaDoor
open Go.RowKit
set_option linter.unusedVariables false
set_option linter.unusedSimpArgs false
set_option maxRecDepth 20000
attribute [local go_sem ↓] Go.wp_at_zero Go.wp_at_succ
attribute [local go_sem] World.cell?_alloc_some frozen_alloc_some

/-- The record with a later promise. -/
def later (a : RecT) (v : Int) : RecT := { a with br := a.br + 1 + v }
theorem later_right {a : RecT} {v : Int} (h : recOk a = true) (hb : a.br ≤ 549755813888) (h0 : 0 ≤ v) (h1 : v ≤ 255) : recOk (later a v) = true := by
  unfold recOk at h ⊢
  split at h
  · cases h
  · rename_i g1
    split at h
    · cases h
    · rename_i g2
      have n1 : ¬ (idRight ((later a v).i, (later a v).n) = false ∨ (later a v).st < 0 ∨ 3 < (later a v).st) := g1
      rw [if_neg n1]
      simp only [not_or, Bool.not_eq_false, Bool.not_eq_true] at g2
      obtain ⟨r1, r2, r3⟩ := g2
      obtain ⟨a0, a1, a2, a3⟩ := rightB_iff.1 r1
      have q1 : rightB (later a v).br (later a v).bb = true := rightB_iff.2 ⟨by show 0 ≤ a.br + 1 + v; omega, by show a.br + 1 + v ≤ _; omega, a2, a3⟩
      have q2 : rightB (later a v).tr (later a v).tb = true := r2
      have q3 : lessB (later a v).br (later a v).bb (later a v).tr (later a v).tb = false := by
        rw [lessB_no] at r3 ⊢
        show a.tr < a.br + 1 + v ∨ a.tr = a.br + 1 + v ∧ _
        omega
      rw [if_neg (by rw [q1, q2, q3]; simp)]
      exact h
theorem later_goes {a : RecT} {v : Int} (h0 : 0 ≤ v) : goesOn a (later a v) = true :=
  goesOn_iff.2 ⟨⟨rfl, rfl⟩, .inl (by show a.br < a.br + 1 + v; omega), .inr ⟨rfl, Int.le_refl _⟩, fun h => ⟨h, ⟨rfl, rfl, rfl, rfl, rfl, rfl⟩, rfl⟩⟩
theorem later_back {a : RecT} {v : Int} (h0 : 0 ≤ v) : goesOn (later a v) a = false := by
  rw [← Bool.not_eq_true, goesOn_iff]
  rintro ⟨_, h, _⟩
  have : a.br + 1 + v < a.br ∨ a.br + 1 + v = a.br ∧ a.bb ≤ a.bb := h
  omega
theorem later_same {a : RecT} {v : Int} (h0 : 0 ≤ v) : recsame a (later a v) = false := by
  rw [← Bool.not_eq_true, recsame_iff]
  rintro ⟨_, _, ⟨h, _⟩, _⟩
  have : a.br = a.br + 1 + v := h
  omega
theorem later_old {a : RecT} {v : Int} (h : recOk a = true) (h' : recOk (later a v) = true) : recOldE (later a v) = recOldE a := by
  unfold recOldE
  rw [h, h']
  rfl
structure PP (w : World) (gs : Nat) (ca cs : Array Value) (W : World) : Prop where
  hb : Below w.heap.size w W
  a : Blk W w.heap.size 33 ca
  s : Blk W gs 33 cs
theorem PP.keep {w W W' : World} {gs : Nat} {ca cs : Array Value} (h : PP w gs ca cs W) (hb : Below W.heap.size W W') : PP w gs ca cs W' :=
  ⟨below_call h.hb hb h.hb.size, h.a.keep hb, h.s.keep hb⟩
attribute [local go_sem ↓ high] loadVar_rec storeVar_rec
attribute [local go_sem] rec_store_new
set_option maxHeartbeats 16000000 in
theorem promise_walk (a : RecT) (v : Int) (w : World) (hT : Tabs w) (ha : a.Ok w) (hv : (Lit.int .u8 v).wf = true) :
    Calls Tryd.prog 8 #[a.v, .int .u8 v] w (Gives w (.bool true)) := by
  obtain ⟨v0, v1⟩ := wf_u8 hv
  have ga := fun W (_ : Below w.heap.size w W) => great9_any a W
  have ck := fun W (h : Below w.heap.size w W) => reccheck_any a W (ha.keep h) (hT.keep h)
  have aw := fun W (h : Below w.heap.size w W) => awake09 W (hT.keep h)
  have B : Blk (w.alloc (.cells #[.int .i64 a.i, .int .i64 a.n, .int .i64 a.st, .int .i64 a.br, .int .i64 a.bb, .int .i64 a.tr, .int .i64 a.tb, .int .i64 a.k, .int .i64 a.c, .int .i64 a.q, .string a.y, .string a.x, .int .i64 a.r, .slice a.A a.m a.cap, .int .i64 a.sq, .int .i64 a.tg] 33)) w.heap.size 33 #[.int .i64 a.i, .int .i64 a.n, .int .i64 a.st, .int .i64 a.br, .int .i64 a.bb, .int .i64 a.tr, .int .i64 a.tb, .int .i64 a.k, .int .i64 a.c, .int .i64 a.q, .string a.y, .string a.x, .int .i64 a.r, .slice a.A a.m a.cap, .int .i64 a.sq, .int .i64 a.tg] := Blk.new _ _ _
  have k : Below w.heap.size w (w.alloc (.cells #[.int .i64 a.i, .int .i64 a.n, .int .i64 a.st, .int .i64 a.br, .int .i64 a.bb, .int .i64 a.tr, .int .i64 a.tb, .int .i64 a.k, .int .i64 a.c, .int .i64 a.q, .string a.y, .string a.x, .int .i64 a.r, .slice a.A a.m a.cap, .int .i64 a.sq, .int .i64 a.tg] 33)) := below_one _
  have la := rec_load B
  have ca := B.cell
  cases x1 : rgreat a
  case true =>
    rw [x1] at ga
    unfold RecT.v at *
    have Ga := Lib.hid ga
    have Ck := Lib.hid ck
    have AW := Lib.hid aw
    clear ga ck aw ha hT
    go_enter Tryd.func8, Tryd.ntmps8
    go_wp2_with (first | (go_at_call 16; (with_reducible refine (Ga.out _ k).mono ?_); rintro e w' ⟨rfl, hb'⟩; have k' := below_call k hb' k.size; replace B := B.keep hb'; clear la ca k hb'; have k := k'; clear k'; have la := rec_load B; have ca := B.cell) | (go_at_call 10; (with_reducible refine (Ck.out _ k).mono ?_); rintro e w' ⟨rfl, hb'⟩; have k' := below_call k hb' k.size; replace B := B.keep hb'; clear la ca k hb'; have k := k'; clear k'; have la := rec_load B; have ca := B.cell) | (go_at_call 17; (with_reducible refine (AW.out _ k).mono ?_); rintro e w' ⟨rfl, hb'⟩; have k' := below_call k hb' k.size; replace B := B.keep hb'; clear la ca k hb'; have k := k'; clear k'; have la := rec_load B; have ca := B.cell))
    go_ret
    exact ⟨rfl, k⟩
  cases x2 : recOk a
  case false =>
    rw [x1] at ga
    rw [x2] at ck
    unfold RecT.v at *
    simp only [recErr] at ck
    have Ga := Lib.hid ga
    have Ck := Lib.hid ck
    have AW := Lib.hid aw
    clear ga ck aw ha hT
    go_enter Tryd.func8, Tryd.ntmps8
    go_wp2_with (first | (go_at_call 16; (with_reducible refine (Ga.out _ k).mono ?_); rintro e w' ⟨rfl, hb'⟩; have k' := below_call k hb' k.size; replace B := B.keep hb'; clear la ca k hb'; have k := k'; clear k'; have la := rec_load B; have ca := B.cell) | (go_at_call 10; (with_reducible refine (Ck.out _ k).mono ?_); rintro e w' ⟨rfl, hb'⟩; have k' := below_call k hb' k.size; replace B := B.keep hb'; clear la ca k hb'; have k := k'; clear k'; have la := rec_load B; have ca := B.cell) | (go_at_call 17; (with_reducible refine (AW.out _ k).mono ?_); rintro e w' ⟨rfl, hb'⟩; have k' := below_call k hb' k.size; replace B := B.keep hb'; clear la ca k hb'; have k := k'; clear k'; have la := rec_load B; have ca := B.cell))
    go_ret
    exact ⟨rfl, k⟩
  rw [x1] at ga
  rw [x2] at ck
  simp only [recErr] at ck
  by_cases x3 : 549755813888 < a.br
  · unfold RecT.v at *
    have Ga := Lib.hid ga
    have Ck := Lib.hid ck
    have AW := Lib.hid aw
    clear ga ck aw ha hT
    go_enter Tryd.func8, Tryd.ntmps8
    go_wp2_with (first | (go_at_call 16; (with_reducible refine (Ga.out _ k).mono ?_); rintro e w' ⟨rfl, hb'⟩; have k' := below_call k hb' k.size; replace B := B.keep hb'; clear la ca k hb'; have k := k'; clear k'; have la := rec_load B; have ca := B.cell) | (go_at_call 10; (with_reducible refine (Ck.out _ k).mono ?_); rintro e w' ⟨rfl, hb'⟩; have k' := below_call k hb' k.size; replace B := B.keep hb'; clear la ca k hb'; have k := k'; clear k'; have la := rec_load B; have ca := B.cell) | (go_at_call 17; (with_reducible refine (AW.out _ k).mono ?_); rintro e w' ⟨rfl, hb'⟩; have k' := below_call k hb' k.size; replace B := B.keep hb'; clear la ca k hb'; have k := k'; clear k'; have la := rec_load B; have ca := B.cell))
    go_ret
    exact ⟨rfl, k⟩
  have hm : a.m ≤ 60 := by unfold rgreat at x1; simp at x1; omega
  have hls : recOk (later a v) = true := later_right x2 (by omega) v0 v1
  obtain ⟨r0, r1⟩ : 0 ≤ a.br ∧ a.br ≤ 1099511627776 := by
    unfold recOk at x2
    split at x2
    · cases x2
    · split at x2
      · cases x2
      · rename_i g2
        simp only [not_or, Bool.not_eq_false, Bool.not_eq_true] at g2
        obtain ⟨a0, a1, _, _⟩ := rightB_iff.1 g2.1
        exact ⟨a0, a1⟩
  have hsOk : (later a v).Ok w := { ha with br := by show (Lit.int .i64 (a.br + 1 + v)).wf = true; simp [Lit.wf, IntKind.min, IntKind.max, IntKind.bits, IntKind.signed]; omega }
  have olr := fun W (h : Below w.heap.size w W) => recold_any a W (ha.keep h) (hT.keep h) (by omega)
  have ols := fun W (h : Below w.heap.size w W) => recold_any (later a v) W (hsOk.keep h) (hT.keep h) (by show a.m ≤ _; omega)
  rw [later_old x2 hls] at ols
  generalize recOldE a = E at olr ols
  have cks := fun W (h : Below w.heap.size w W) => reccheck_any (later a v) W (hsOk.keep h) (hT.keep h)
  rw [hls] at cks
  simp only [recErr] at cks
  have grs := fun W (h : Below w.heap.size w W) => goeson_any a (later a v) W (ha.l.keep h) (hsOk.l.keep h)
  rw [later_goes v0] at grs
  have gsr := fun W (h : Below w.heap.size w W) => goeson_any (later a v) a W (hsOk.l.keep h) (ha.l.keep h)
  rw [later_back v0] at gsr
  have srs := fun W (h : Below w.heap.size w W) => recsame_any a (later a v) W (ha.l.keep h) (hsOk.l.keep h)
  rw [later_same v0] at srs
  have hw1 : IntKind.i64.wrap (a.br + 1) = a.br + 1 := IntWalk.i64_in _ (by omega)
  have hw2 : IntKind.i64.wrap v = v := IntWalk.i64_in _ (by omega)
  have hw3 : IntKind.i64.wrap (a.br + 1 + v) = a.br + 1 + v := IntWalk.i64_in _ (by omega)
  unfold later RecT.v at *
  have Ga := Lib.hid ga
  have Ck := Lib.hid ck
  have AW := Lib.hid aw
  have Olr := Lib.hid olr
  have Ols := Lib.hid ols
  have Cks := Lib.hid cks
  have Grs := Lib.hid grs
  have Gsr := Lib.hid gsr
  have Srs := Lib.hid srs
  clear ga ck aw olr ols cks grs gsr srs ha hsOk hT hls x1 x2 hm hv r0 r1
  go_enter Tryd.func8, Tryd.ntmps8
  go_upto_region 3 with (first | (go_at_call 16; (with_reducible refine (Ga.out _ k).mono ?_); rintro e w' ⟨rfl, hb'⟩; have k' := below_call k hb' k.size; replace B := B.keep hb'; clear la ca k hb'; have k := k'; clear k'; have la := rec_load B; have ca := B.cell) | (go_at_call 10; (with_reducible refine (Ck.out _ k).mono ?_); rintro e w' ⟨rfl, hb'⟩; have k' := below_call k hb' k.size; replace B := B.keep hb'; clear la ca k hb'; have k := k'; clear k'; have la := rec_load B; have ca := B.cell) | (go_at_call 17; (with_reducible refine (AW.out _ k).mono ?_); rintro e w' ⟨rfl, hb'⟩; have k' := below_call k hb' k.size; replace B := B.keep hb'; clear la ca k hb'; have k := k'; clear k'; have la := rec_load B; have ca := B.cell))
  clear Ga Ck
  go_upto_region 5 with fail
  have P : PP w w'.heap.size #[.int .i64 a.i, .int .i64 a.n, .int .i64 a.st, .int .i64 a.br, .int .i64 a.bb, .int .i64 a.tr, .int .i64 a.tb, .int .i64 a.k, .int .i64 a.c, .int .i64 a.q, .string a.y, .string a.x, .int .i64 a.r, .slice a.A a.m a.cap, .int .i64 a.sq, .int .i64 a.tg] #[.int .i64 a.i, .int .i64 a.n, .int .i64 a.st, .int .i64 (a.br + 1 + v), .int .i64 a.bb, .int .i64 a.tr, .int .i64 a.tb, .int .i64 a.k, .int .i64 a.c, .int .i64 a.q, .string a.y, .string a.x, .int .i64 a.r, .slice a.A a.m a.cap, .int .i64 a.sq, .int .i64 a.tg] (w'.alloc (.cells #[.int .i64 a.i, .int .i64 a.n, .int .i64 a.st, .int .i64 (a.br + 1 + v), .int .i64 a.bb, .int .i64 a.tr, .int .i64 a.tb, .int .i64 a.k, .int .i64 a.c, .int .i64 a.q, .string a.y, .string a.x, .int .i64 a.r, .slice a.A a.m a.cap, .int .i64 a.sq, .int .i64 a.tg] 33)) := ⟨k.alloc (by have := k.size; omega) _, B.alloc _, Blk.new _ _ _⟩
  clear la ca B k
  have la := rec_load P.a
  have lb := rec_load P.s
  simp only [if_true] at Cks
  revert la lb P
  generalize w'.heap.size = gs
  generalize w'.alloc _ = W0
  intro P la lb
  go_upto_region 6 with (go_at_call 23; (with_reducible refine (Olr.out _ P.hb).mono ?_); rintro e w' ⟨vk, vn, vs, vA, vm, vc, rfl, hb'⟩; have Pn := (P.keep hb').keep (below_one (.cells #[.int .i64 vk, .int .u64 vn, .string vs, .slice vA vm vc] 56)); clear la lb P hb'; have P := Pn; clear Pn; have la := rec_load P.a; have lb := rec_load P.s)
  clear Olr
  go_upto_region 7 with (go_at_call 23; (with_reducible refine (Ols.out _ P.hb).mono ?_); rintro e w' ⟨vk, vn, vs, vA, vm, vc, rfl, hb'⟩; have Pn := (P.keep hb').keep (below_one (.cells #[.int .i64 vk, .int .u64 vn, .string vs, .slice vA vm vc] 56)); clear la lb P hb'; have P := Pn; clear Pn; have la := rec_load P.a; have lb := rec_load P.s)
  clear Ols
  go_wp2_with (first | (go_at_call 10; (with_reducible refine (Cks.out _ P.hb).mono ?_); rintro e w' ⟨rfl, hb'⟩; have Pn := P.keep hb'; clear la lb P hb'; have P := Pn; clear Pn; have la := rec_load P.a; have lb := rec_load P.s) | (go_at_call 21; (with_reducible refine (Grs.out _ P.hb).mono ?_); rintro e w' ⟨rfl, hb'⟩; have Pn := P.keep hb'; clear la lb P hb'; have P := Pn; clear Pn; have la := rec_load P.a; have lb := rec_load P.s) | (go_at_call 21; (with_reducible refine (Gsr.out _ P.hb).mono ?_); rintro e w' ⟨rfl, hb'⟩; have Pn := P.keep hb'; clear la lb P hb'; have P := Pn; clear Pn; have la := rec_load P.a; have lb := rec_load P.s) | (go_at_call 19; (with_reducible refine (Srs.out _ P.hb).mono ?_); rintro e w' ⟨rfl, hb'⟩; have Pn := P.keep hb'; clear la lb P hb'; have P := Pn; clear Pn; have la := rec_load P.a; have lb := rec_load P.s) | (go_at_call 17; (with_reducible refine (AW.out _ P.hb).mono ?_); rintro e w' ⟨rfl, hb'⟩; have Pn := P.keep hb'; clear la lb P hb'; have P := Pn; clear Pn; have la := rec_load P.a; have lb := rec_load P.s))
  go_ret
  exact ⟨rfl, P.hb⟩
end Go.Proofs.YtmgiholmhhjpaaaDoor
