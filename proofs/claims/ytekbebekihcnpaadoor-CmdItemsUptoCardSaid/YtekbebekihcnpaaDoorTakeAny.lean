/- cmd.Take and the document's, at any item: one answer. -/
import Derived.Test.YtekbebekihcnpaaDoorRefTake06
import Derived.Test.YtekbebekihcnpaaDoorCmdBack
namespace Go.Proofs.YtekbebekihcnpaaDoor
open Go.RowKit
set_option linter.unusedVariables false
set_option linter.unusedSimpArgs false
set_option maxRecDepth 20000
attribute [local go_sem ↓] Go.wp_at_zero Go.wp_at_succ
attribute [local go_sem] World.cell?_alloc_some frozen_alloc_some
attribute [local go_sem] lt2 lt3 lt4 lt5
attribute [local simp] lt2 lt3 lt4 lt5

set_option maxHeartbeats 4000000 in
theorem take_short (kk nn : Int) (ss : ByteArray) (A : Option Addr) (m cc : Nat) (w : World) (hm : m ≠ 6) :
    Calls Tryd.prog 18 #[.agg #[.int .i64 kk, .int .u64 nn, .string ss, .slice A m cc]] w (Gives w (.tuple #[.agg #[.int .i64 0, .int .i64 0, .int .i64 0, .string ByteArray.empty, .string ByteArray.empty, .int .i64 0], .bool false])) := by
  have hm' : ((m : Int) != 6) = true := by simp; omega
  go_enter Tryd.func18, Tryd.ntmps18
  go_wp2_with fail
  refine bodyPost_ret (v := .tuple #[.agg #[.int .i64 0, .int .i64 0, .int .i64 0, .string ByteArray.empty, .string ByteArray.empty, .int .i64 0], .bool false]) (by simp [results, Tryd.results18, go_sem, *] <;> rfl) rfl ?_
  exact ⟨rfl, by ((repeat' first | with_reducible exact Below.refl _ _ | with_reducible assumption | with_reducible refine Below.alloc ?_ ?_ _ | with_reducible refine Below.setCell ?_ ?_ _ | with_reducible apply Below.drew | with_reducible apply below_drewN | with_reducible refine below_call ?_ (by with_reducible assumption) ?_) <;> (first | omega | (simp; done) | (simp; omega) | (simp at *; omega)))⟩
set_option maxHeartbeats 4000000 in
theorem reftake_short (kk nn : Int) (ss : ByteArray) (A : Option Addr) (m cc : Nat) (w : World) (hm : m ≠ 6) :
    Calls Tryd.prog 21 #[.agg #[.int .i64 kk, .int .u64 nn, .string ss, .slice A m cc]] w (Gives w (.tuple #[.agg #[.int .i64 0, .int .i64 0, .int .i64 0, .string ByteArray.empty, .string ByteArray.empty, .int .i64 0], .bool false])) := by
  have hm' : ((m : Int) != 6) = true := by simp; omega
  go_enter Tryd.func21, Tryd.ntmps21
  go_wp2_with fail
  refine bodyPost_ret (v := .tuple #[.agg #[.int .i64 0, .int .i64 0, .int .i64 0, .string ByteArray.empty, .string ByteArray.empty, .int .i64 0], .bool false]) (by simp [results, Tryd.results21, go_sem, *] <;> rfl) rfl ?_
  exact ⟨rfl, by ((repeat' first | with_reducible exact Below.refl _ _ | with_reducible assumption | with_reducible refine Below.alloc ?_ ?_ _ | with_reducible refine Below.setCell ?_ ?_ _ | with_reducible apply Below.drew | with_reducible apply below_drewN | with_reducible refine below_call ?_ (by with_reducible assumption) ?_) <;> (first | omega | (simp; done) | (simp; omega) | (simp at *; omega)))⟩
/-- An element's four cells. -/
theorem Items.elem7 {w : World} {ad : Addr} {m c : Nat} {l : List Tree} (h : Items w (some ad) m c l) {i : Nat} {t : Tree} (hi : l[i]? = some t) :
    ∃ (eb eo : Nat) (ek : Int) (n : Nat) (es : ByteArray) (eA : Option Addr) (em ec : Nat), ad.add (i * 4) = ⟨eb, eo, none⟩ ∧ n < 2 ^ 64 ∧ es.size ≤ maxLen ∧ w.cell? ⟨eb, eo, none⟩ = some (.int .i64 ek) ∧ w.cell? ⟨eb, eo + 1, none⟩ = some (.int .u64 (n : Int)) ∧ w.cell? ⟨eb, eo + 2, none⟩ = some (.string es) ∧ w.cell? ⟨eb, eo + 3, none⟩ = some (.slice eA em ec) ∧ cnum t = clamp n ∧ ctxt t = es := by
  obtain ⟨k, n, s, l'⟩ := t
  obtain ⟨ad', u, e, hu, b, o, k2, n2, s2, A2, m2, c2, ea, rfl, q0, q1, q2, q3⟩ := h.elem hi
  injection e with e
  subst e
  obtain ⟨A3, m3, c3, e3, _, hn, hs, _⟩ := hu.open_
  injection e3 with e3
  simp at e3
  obtain ⟨rfl, rfl, rfl, rfl, rfl, rfl⟩ := e3
  exact ⟨b, o, _, n, _, _, _, _, ea, hn, hs, q0, q1, q2, q3, rfl, rfl⟩
theorem ctxt_size (t : Tree) : (ctxt t).size ≤ tsize t := by
  obtain ⟨k, n, s, l⟩ := t
  simp only [ctxt, tsize]
  omega
set_option maxHeartbeats 4000000 in
theorem takes_any (t : Tree) (v : Value) (w : World) (hv : Holds w t v) (hT : Tabs w) (hsz : tsize t ≤ 1048576) :
    ∃ (k c q : Int) (y x : ByteArray) (r : Int) (b : Bool), (∀ W, Below w.heap.size w W → Calls Tryd.prog 18 #[v] W (Gives W (.tuple #[.agg #[.int .i64 k, .int .i64 c, .int .i64 q, .string y, .string x, .int .i64 r], .bool b]))) ∧
      (∀ W, Below w.heap.size w W → Calls Tryd.prog 21 #[v] W (Gives W (.tuple #[.agg #[.int .i64 k, .int .i64 c, .int .i64 q, .string y, .string x, .int .i64 r], .bool b]))) := by
  obtain ⟨kk, nn, ss, l⟩ := t
  obtain ⟨A, m, cc, rfl, _, _, _, hm, _, _, _⟩ := hv.open_
  have hi := hv.items
  by_cases h6 : m = 6
  · subst h6
    obtain ⟨t0, t1, t2, t3, t4, t5, rfl⟩ : ∃ t0 t1 t2 t3 t4 t5, l = [t0, t1, t2, t3, t4, t5] := by
      match l, hm with
      | [a, b, c, d, e, f], _ => exact ⟨a, b, c, d, e, f, rfl⟩
    obtain ⟨ad, rfl⟩ : ∃ ad, A = some ad := by
      obtain ⟨ad, u, e, _⟩ := hi.elem (i := 0) rfl
      exact ⟨ad, e⟩
    obtain ⟨eb0, eo0, ek0, n0, es0, eA0, em0, ec0, a0, l0, z0, p0, q0, r0, s0, u0, v0⟩ := hi.elem7 (i := 0) rfl
    obtain ⟨eb1, eo1, ek1, n1, es1, eA1, em1, ec1, a1, l1, z1, p1, q1, r1, s1, u1, v1⟩ := hi.elem7 (i := 1) rfl
    obtain ⟨eb2, eo2, ek2, n2, es2, eA2, em2, ec2, a2, l2, z2, p2, q2, r2, s2, u2, v2⟩ := hi.elem7 (i := 2) rfl
    obtain ⟨eb3, eo3, ek3, n3, es3, eA3, em3, ec3, a3, l3, z3, p3, q3, r3, s3, u3, v3⟩ := hi.elem7 (i := 3) rfl
    obtain ⟨eb4, eo4, ek4, n4, es4, eA4, em4, ec4, a4, l4, z4, p4, q4, r4, s4, u4, v4⟩ := hi.elem7 (i := 4) rfl
    obtain ⟨eb5, eo5, ek5, n5, es5, eA5, em5, ec5, a5, l5, z5, p5, q5, r5, s5, u5, v5⟩ := hi.elem7 (i := 5) rfl
    have hz3 : es3.size ≤ 1000000000 := by
      have h1 := ctxt_size t3
      rw [v3] at h1
      have h2 := tsizes_mem (show t3 ∈ [t0, t1, t2, t3, t4, t5] by simp)
      simp only [tsize] at hsz
      omega
    by_cases hc : ccheck (clamp n0 : Int) (clamp n1 : Int) (clamp n2 : Int) es3 es4 (clamp n5 : Int) = 0 ∧ tsame (.mk kk nn ss [t0, t1, t2, t3, t4, t5]) (ctree (clamp n0) (clamp n1) (clamp n2) es3 es4 (clamp n5)) = true
    · exact ⟨(clamp n0 : Int), (clamp n1 : Int), (clamp n2 : Int), es3, es4, (clamp n5 : Int), true,
        fun W hW => by
          have h := take_six _ (kk : Int) (nn : Int) ss ad cc (fun i => match i with | 0 => eb0 | 1 => eb1 | 2 => eb2 | 3 => eb3 | 4 => eb4 | _ => eb5) (fun i => match i with | 0 => eo0 | 1 => eo1 | 2 => eo2 | 3 => eo3 | 4 => eo4 | _ => eo5) (fun i => match i with | 0 => n0 | 1 => n1 | 2 => n2 | 3 => n3 | 4 => n4 | _ => n5) es3 es4 W (hT.keep hW) (Holds.keep hW hv) z3 z4 (fun i hi => by match i, hi with | 0, _ => exact l0 | 1, _ => exact l1 | 2, _ => exact l2 | 3, _ => exact l3 | 4, _ => exact l4 | 5, _ => exact l5 | i + 6, hi => omega) (fun i hi => by match i, hi with | 0, _ => exact a0 | 1, _ => exact a1 | 2, _ => exact a2 | 3, _ => exact a3 | 4, _ => exact a4 | 5, _ => exact a5 | i + 6, hi => omega) (fun i hi => by match i, hi with | 0, _ => exact (cell_keep hW q0) | 1, _ => exact (cell_keep hW q1) | 2, _ => exact (cell_keep hW q2) | 3, _ => exact (cell_keep hW q3) | 4, _ => exact (cell_keep hW q4) | 5, _ => exact (cell_keep hW q5) | i + 6, hi => omega) (cell_keep hW r3) (cell_keep hW r4)
          exact h.mono fun e w' ⟨h1, h2⟩ => ⟨h1.trans (congrArg Ending.returned (if_pos hc)), h2⟩,
        fun W hW => by
          have h := reftake_six _ (kk : Int) (nn : Int) ss ad cc (fun i => match i with | 0 => eb0 | 1 => eb1 | 2 => eb2 | 3 => eb3 | 4 => eb4 | _ => eb5) (fun i => match i with | 0 => eo0 | 1 => eo1 | 2 => eo2 | 3 => eo3 | 4 => eo4 | _ => eo5) (fun i => match i with | 0 => n0 | 1 => n1 | 2 => n2 | 3 => n3 | 4 => n4 | _ => n5) (fun i => match i with | 0 => em0 | 1 => em1 | 2 => em2 | 3 => em3 | 4 => em4 | _ => em5) (fun i => match i with | 0 => ec0 | 1 => ec1 | 2 => ec2 | 3 => ec3 | 4 => ec4 | _ => ec5) (fun i => match i with | 0 => ek0 | 1 => ek1 | 2 => ek2 | 3 => ek3 | 4 => ek4 | _ => ek5) (fun i => match i with | 0 => es0 | 1 => es1 | 2 => es2 | 3 => es3 | 4 => es4 | _ => es5) (fun i => match i with | 0 => eA0 | 1 => eA1 | 2 => eA2 | 3 => eA3 | 4 => eA4 | _ => eA5) es3 es4 W (Holds.keep hW hv) hz3 z4 (fun i hi => by match i, hi with | 0, _ => exact l0 | 1, _ => exact l1 | 2, _ => exact l2 | 3, _ => exact l3 | 4, _ => exact l4 | 5, _ => exact l5 | i + 6, hi => omega) (fun i hi => by match i, hi with | 0, _ => exact a0 | 1, _ => exact a1 | 2, _ => exact a2 | 3, _ => exact a3 | 4, _ => exact a4 | 5, _ => exact a5 | i + 6, hi => omega) (fun i hi => by match i, hi with | 0, _ => exact (cell_keep hW p0) | 1, _ => exact (cell_keep hW p1) | 2, _ => exact (cell_keep hW p2) | 3, _ => exact (cell_keep hW p3) | 4, _ => exact (cell_keep hW p4) | 5, _ => exact (cell_keep hW p5) | i + 6, hi => omega) (fun i hi => by match i, hi with | 0, _ => exact (cell_keep hW q0) | 1, _ => exact (cell_keep hW q1) | 2, _ => exact (cell_keep hW q2) | 3, _ => exact (cell_keep hW q3) | 4, _ => exact (cell_keep hW q4) | 5, _ => exact (cell_keep hW q5) | i + 6, hi => omega) (fun i hi => by match i, hi with | 0, _ => exact (cell_keep hW r0) | 1, _ => exact (cell_keep hW r1) | 2, _ => exact (cell_keep hW r2) | 3, _ => exact (cell_keep hW r3) | 4, _ => exact (cell_keep hW r4) | 5, _ => exact (cell_keep hW r5) | i + 6, hi => omega) (fun i hi => by match i, hi with | 0, _ => exact (cell_keep hW s0) | 1, _ => exact (cell_keep hW s1) | 2, _ => exact (cell_keep hW s2) | 3, _ => exact (cell_keep hW s3) | 4, _ => exact (cell_keep hW s4) | 5, _ => exact (cell_keep hW s5) | i + 6, hi => omega) (cell_keep hW r3) (cell_keep hW r4)
          exact h.mono fun e w' ⟨h1, h2⟩ => ⟨h1.trans (congrArg Ending.returned (if_pos hc)), h2⟩⟩
    · exact ⟨0, 0, 0, ByteArray.empty, ByteArray.empty, 0, false,
        fun W hW => by
          have h := take_six _ (kk : Int) (nn : Int) ss ad cc (fun i => match i with | 0 => eb0 | 1 => eb1 | 2 => eb2 | 3 => eb3 | 4 => eb4 | _ => eb5) (fun i => match i with | 0 => eo0 | 1 => eo1 | 2 => eo2 | 3 => eo3 | 4 => eo4 | _ => eo5) (fun i => match i with | 0 => n0 | 1 => n1 | 2 => n2 | 3 => n3 | 4 => n4 | _ => n5) es3 es4 W (hT.keep hW) (Holds.keep hW hv) z3 z4 (fun i hi => by match i, hi with | 0, _ => exact l0 | 1, _ => exact l1 | 2, _ => exact l2 | 3, _ => exact l3 | 4, _ => exact l4 | 5, _ => exact l5 | i + 6, hi => omega) (fun i hi => by match i, hi with | 0, _ => exact a0 | 1, _ => exact a1 | 2, _ => exact a2 | 3, _ => exact a3 | 4, _ => exact a4 | 5, _ => exact a5 | i + 6, hi => omega) (fun i hi => by match i, hi with | 0, _ => exact (cell_keep hW q0) | 1, _ => exact (cell_keep hW q1) | 2, _ => exact (cell_keep hW q2) | 3, _ => exact (cell_keep hW q3) | 4, _ => exact (cell_keep hW q4) | 5, _ => exact (cell_keep hW q5) | i + 6, hi => omega) (cell_keep hW r3) (cell_keep hW r4)
          exact h.mono fun e w' ⟨h1, h2⟩ => ⟨h1.trans (congrArg Ending.returned (if_neg hc)), h2⟩,
        fun W hW => by
          have h := reftake_six _ (kk : Int) (nn : Int) ss ad cc (fun i => match i with | 0 => eb0 | 1 => eb1 | 2 => eb2 | 3 => eb3 | 4 => eb4 | _ => eb5) (fun i => match i with | 0 => eo0 | 1 => eo1 | 2 => eo2 | 3 => eo3 | 4 => eo4 | _ => eo5) (fun i => match i with | 0 => n0 | 1 => n1 | 2 => n2 | 3 => n3 | 4 => n4 | _ => n5) (fun i => match i with | 0 => em0 | 1 => em1 | 2 => em2 | 3 => em3 | 4 => em4 | _ => em5) (fun i => match i with | 0 => ec0 | 1 => ec1 | 2 => ec2 | 3 => ec3 | 4 => ec4 | _ => ec5) (fun i => match i with | 0 => ek0 | 1 => ek1 | 2 => ek2 | 3 => ek3 | 4 => ek4 | _ => ek5) (fun i => match i with | 0 => es0 | 1 => es1 | 2 => es2 | 3 => es3 | 4 => es4 | _ => es5) (fun i => match i with | 0 => eA0 | 1 => eA1 | 2 => eA2 | 3 => eA3 | 4 => eA4 | _ => eA5) es3 es4 W (Holds.keep hW hv) hz3 z4 (fun i hi => by match i, hi with | 0, _ => exact l0 | 1, _ => exact l1 | 2, _ => exact l2 | 3, _ => exact l3 | 4, _ => exact l4 | 5, _ => exact l5 | i + 6, hi => omega) (fun i hi => by match i, hi with | 0, _ => exact a0 | 1, _ => exact a1 | 2, _ => exact a2 | 3, _ => exact a3 | 4, _ => exact a4 | 5, _ => exact a5 | i + 6, hi => omega) (fun i hi => by match i, hi with | 0, _ => exact (cell_keep hW p0) | 1, _ => exact (cell_keep hW p1) | 2, _ => exact (cell_keep hW p2) | 3, _ => exact (cell_keep hW p3) | 4, _ => exact (cell_keep hW p4) | 5, _ => exact (cell_keep hW p5) | i + 6, hi => omega) (fun i hi => by match i, hi with | 0, _ => exact (cell_keep hW q0) | 1, _ => exact (cell_keep hW q1) | 2, _ => exact (cell_keep hW q2) | 3, _ => exact (cell_keep hW q3) | 4, _ => exact (cell_keep hW q4) | 5, _ => exact (cell_keep hW q5) | i + 6, hi => omega) (fun i hi => by match i, hi with | 0, _ => exact (cell_keep hW r0) | 1, _ => exact (cell_keep hW r1) | 2, _ => exact (cell_keep hW r2) | 3, _ => exact (cell_keep hW r3) | 4, _ => exact (cell_keep hW r4) | 5, _ => exact (cell_keep hW r5) | i + 6, hi => omega) (fun i hi => by match i, hi with | 0, _ => exact (cell_keep hW s0) | 1, _ => exact (cell_keep hW s1) | 2, _ => exact (cell_keep hW s2) | 3, _ => exact (cell_keep hW s3) | 4, _ => exact (cell_keep hW s4) | 5, _ => exact (cell_keep hW s5) | i + 6, hi => omega) (cell_keep hW r3) (cell_keep hW r4)
          exact h.mono fun e w' ⟨h1, h2⟩ => ⟨h1.trans (congrArg Ending.returned (if_neg hc)), h2⟩⟩
  · exact ⟨0, 0, 0, ByteArray.empty, ByteArray.empty, 0, false, fun W _ => take_short _ _ _ _ _ _ W h6, fun W _ => reftake_short _ _ _ _ _ _ W h6⟩
end Go.Proofs.YtekbebekihcnpaaDoor
