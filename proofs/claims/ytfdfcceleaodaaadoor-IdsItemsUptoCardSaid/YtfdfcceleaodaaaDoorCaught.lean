/- The deferred function codec.caught: for a frame that returns, and for one that panics with a fault. -/
import Derived.Test.YtfdfcceleaodaaaDoorCodecH
import Derived.Defers
import Derived.Recover
namespace Go.Proofs.YtfdfcceleaodaaaDoor
open Go.RowKit
set_option linter.unusedVariables false
set_option linter.unusedSimpArgs false
set_option maxRecDepth 20000
attribute [local go_sem ↓] Go.wp_at_zero Go.wp_at_succ
attribute [local go_sem] World.cell?_alloc_some frozen_alloc_some
attribute [local go_sem] lt2 lt3 lt4 lt5
attribute [local simp] lt2 lt3 lt4 lt5

@[go_sem] theorem as_ff (v : Value) (w : World) : (Instr.typeAssert (.iface 143 v) 20 143 true).run Tryd.prog w = .ok (.tuple #[v, .bool true]) w := by kernel_rfl

set_option maxHeartbeats 1000000 in
theorem caught_idle (p q : Addr) (w : World) :
    CallsD Tryd.prog 67 #[.pointer (some p), .pointer (some q)] .returning w fun e u' w' => e = .returned (.tuple #[]) ∧ u' = .returning ∧ w' = w := by
  refine callsD_of_wpS Tryd.func67 rfl fun c₀ cs hu => ?_
  simp only [Tryd.ntmps67, List.size_toArray, List.length_cons, List.length_nil, Nat.reduceAdd, Nat.reduceSub, Array.replicate_succ, Array.replicate_zero, List.push_toArray, List.append_toArray, List.nil_append, List.cons_append]
  apply wpS_seq
  apply wpS_region
  simp [wpOpsS, go_sem, recoverD, hu, Exit.thenS]
  refine wpS_of_wp ?_
  go_wp2_with fail
  cases c₀
  simp_all [bodyPostS, results, Tryd.results67]

set_option maxHeartbeats 4000000 in
theorem caught_fault (p q : Nat) (e0 a0 e a : Int) (w : World) (hp : w.cell? ⟨p, 0, none⟩ = some (.int .i64 e0)) (hq : w.cell? ⟨q, 0, none⟩ = some (.int .i64 a0)) (fp : w.frozen? ⟨p, 0, none⟩ = false) (fq : w.frozen? ⟨q, 0, none⟩ = false) (hpq : p ≠ q) :
    CallsD Tryd.prog 67 #[.pointer (some ⟨p, 0, none⟩), .pointer (some ⟨q, 0, none⟩)] (.panicking [{ v := .iface 143 (.agg #[.int .i64 e, .int .i64 a]), recovered := false }]) w
      fun r u' w' => r = .returned (.tuple #[]) ∧ u' = .panicking [{ v := .iface 143 (.agg #[.int .i64 e, .int .i64 a]), recovered := true }] ∧ w'.cell? ⟨p, 0, none⟩ = some (.int .i64 e) ∧ w'.cell? ⟨q, 0, none⟩ = some (.int .i64 a) ∧ ∀ B, B ≤ p → B ≤ q → Below B w w' := by
  refine callsD_of_wpS Tryd.func67 rfl fun c₀ cs hu => ?_
  simp only [Tryd.ntmps67, List.size_toArray, List.length_cons, List.length_nil, Nat.reduceAdd, Nat.reduceSub, Array.replicate_succ, Array.replicate_zero, List.push_toArray, List.append_toArray, List.nil_append, List.cons_append]
  apply wpS_seq
  apply wpS_region
  simp [wpOpsS, go_sem, recoverD, hu, Exit.thenS]
  refine wpS_of_wp ?_
  have lp : p < w.heap.size := World.block_lt_of_cell? _ _ hp
  have lq : q < w.heap.size := World.block_lt_of_cell? _ _ hq
  have np : p ≠ w.heap.size := by omega
  have nq : q ≠ w.heap.size := by omega
  have hqp : q ≠ p := Ne.symm hpq
  have hp1 := cell_alloc (o := .cells #[.int .i64 e, .int .i64 a] 143) hp
  have hq1 := cell_alloc (o := .cells #[.int .i64 e, .int .i64 a] 143) hq
  have fp1 := frozen_alloc (o := .cells #[.int .i64 e, .int .i64 a] 143) hp fp
  have fq1 := frozen_alloc (o := .cells #[.int .i64 e, .int .i64 a] 143) hq fq
  go_wp2_with fail
  go_region
  have k1 : ((((w.setCell ⟨p, 0, none⟩ (.int .i64 e)).setCell ⟨q, 0, none⟩ (.int .i64 a)).alloc (.cells #[.int .i64 e, .int .i64 a] 143)).drew).cell? ⟨p, 0, none⟩ = some (.int .i64 e) := by
    rw [World.cell?_drew]
    exact cell_alloc (cell_far (by simp [go_sem, *]) hqp)
  have k2 : ((((w.setCell ⟨p, 0, none⟩ (.int .i64 e)).setCell ⟨q, 0, none⟩ (.int .i64 a)).alloc (.cells #[.int .i64 e, .int .i64 a] 143)).drew).cell? ⟨q, 0, none⟩ = some (.int .i64 a) := by
    rw [World.cell?_drew]
    exact cell_alloc (by simp [go_sem, *])
  have k3 : ∀ B, B ≤ p → B ≤ q → Below B w ((((w.setCell ⟨p, 0, none⟩ (.int .i64 e)).setCell ⟨q, 0, none⟩ (.int .i64 a)).alloc (.cells #[.int .i64 e, .int .i64 a] 143)).drew) := fun B h1 h2 =>
    (((Below.refl B w).setCell h1 _).setCell h2 _).alloc (by simp; omega) _ |>.drew
  exact ⟨rfl, _, rfl, _, results_none rfl _ _ _, rfl, rfl, k1, k2, k3⟩
end Go.Proofs.YtfdfcceleaodaaaDoor
