/- Ids held against one another: ==, slices.Equal, ids.Equal, attr.Same. -/
import Derived.Test.YtpdlhcfepafjeaaIds
import Derived.WalkKit
import Derived.WalkSpells
import Derived.WalkLawsBesides
import Derived.Deep.RegionHeld3
import Derived.Deep.DrawnRows
import Derived.Deep.DeepCutAuto
import Derived.Deep.DeepFit
import Derived.Lib.Hide
import Derived.BigQuiet
import Derived.Deep.QuietTactic
namespace Go.Proofs.Ytpdlhcfepafjeaa
open Go.RowKit
set_option linter.unusedVariables false
set_option linter.unusedSimpArgs false
set_option maxRecDepth 20000
attribute [local go_sem ↓] Go.wp_at_zero Go.wp_at_succ
attribute [local go_sem] World.cell?_alloc_some frozen_alloc_some

theorem id_eql_run (a b c d : Int) (W : World) : (binOp .eql 34 (.agg #[.int .i64 a, .int .i64 b]) (.agg #[.int .i64 c, .int .i64 d])).run Try.prog W = .ok (.bool (a == c && b == d)) W := by
  by_cases h1 : a = c
  · go_simp
    by_cases h2 : b = d <;> simp [h2]
  · go_simp
theorem id_neq_run (a b c d : Int) (W : World) : (binOp .neq 34 (.agg #[.int .i64 a, .int .i64 b]) (.agg #[.int .i64 c, .int .i64 d])).run Try.prog W = .ok (.bool (!(a == c && b == d))) W := by
  by_cases h1 : a = c
  · go_simp
    by_cases h2 : b = d <;> simp [h2]
  · go_simp

def lseq (l m : List IdP) : Bool := decide (l = m)
theorem lseq_iff {l m : List IdP} : lseq l m = true ↔ l = m := decide_eq_true_iff
theorem take_step {l m : List IdP} {j : Nat} {x : IdP} (h : l.take j = m.take j) (h1 : l[j]? = some x) (h2 : m[j]? = some x) : l.take (j + 1) = m.take (j + 1) := by
  rw [List.take_add_one, List.take_add_one, h, h1, h2]

end Go.Proofs.Ytpdlhcfepafjeaa
