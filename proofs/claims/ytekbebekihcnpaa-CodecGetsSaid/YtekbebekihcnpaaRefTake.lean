/- The walk of stonecropref03.take: what is read of bytes, by the document. -/
import Derived.Test.YtekbebekihcnpaaHoldsIn
import Derived.Test.YtekbebekihcnpaaTreeD
import Derived.Test.YtekbebekihcnpaaPlain
import Derived.Test.YtekbebekihcnpaaReader
import Derived.Test.YtekbebekihcnpaaNumC
namespace Go.Proofs.Ytekbebekihcnpaa
open Go.RowKit
set_option linter.unusedVariables false
set_option linter.unusedSimpArgs false
set_option maxRecDepth 20000
attribute [local go_sem ↓] Go.wp_at_zero Go.wp_at_succ
attribute [local go_sem] World.cell?_alloc_some frozen_alloc_some
attribute [local go_sem] lt2 lt3 lt4 lt5
attribute [local simp] lt2 lt3 lt4 lt5

/-- The document's answer as a value: an item's four cells, the place behind it, the error, its place. -/
def gotItem (k n : Int) (s : ByteArray) (A : Option Addr) (m c : Nat) (N E P : Int) : Value := .agg #[.int .i64 k, .int .u64 n, .string s, .slice A m c, .int .i64 N, .int .i64 E, .int .i64 P]
def Taken (w : World) (x : Got) (r : Ending) (w' : World) : Prop :=
  Below w.heap.size w w' ∧ match x with
  | .error (e, p) => r = .returned (gotItem 0 0 ByteArray.empty none 0 0 0 e p)
  | .ok (t, _, a1) => ∃ k n s A m c, r = .returned (gotItem k n s A m c a1 0 0) ∧ HoldsIn w' (fun b => w.heap.size ≤ b) t (.agg #[.int .i64 k, .int .u64 n, .string s, .slice A m c])

set_option maxHeartbeats 4000000 in
theorem rtake_end (A : Option Addr) (n cap : Nat) (d : Int) (w : World) :
    Calls Try.prog 39 #[.slice A n cap, .int .i64 (n : Int), .int .i64 d] w (Taken w (.error (2, n))) := by
  go_enter Try.func39, Try.ntmps39
  go_wp2_with fail
  refine bodyPost_ret (v := gotItem 0 0 ByteArray.empty none 0 0 0 2 n) (by simp [results, Try.results39, go_sem, *, gotItem] <;> rfl) rfl ?_
  exact ⟨by ((repeat' first | with_reducible exact Below.refl _ _ | with_reducible assumption | with_reducible refine Below.alloc ?_ ?_ _ | with_reducible refine Below.setCell ?_ ?_ _ | with_reducible apply Below.drew | with_reducible apply below_drewN | with_reducible refine below_call ?_ (by with_reducible assumption) ?_) <;> (first | omega | (simp; done) | (simp; omega) | (simp at *; omega))), rfl⟩
set_option maxHeartbeats 4000000 in
theorem rtake_deep (A : Option Addr) (n cap a : Nat) (d : Int) (w : World) (ha : a < n) (hd : 15 < d) :
    Calls Try.prog 39 #[.slice A n cap, .int .i64 (a : Int), .int .i64 d] w (Taken w (.error (12, a))) := by
  have hne : ((a : Int) == (n : Int)) = false := by simp; omega
  go_enter Try.func39, Try.ntmps39
  go_wp2_with fail
  refine bodyPost_ret (v := gotItem 0 0 ByteArray.empty none 0 0 0 12 a) (by simp [results, Try.results39, go_sem, *, gotItem] <;> rfl) rfl ?_
  exact ⟨by ((repeat' first | with_reducible exact Below.refl _ _ | with_reducible assumption | with_reducible refine Below.alloc ?_ ?_ _ | with_reducible refine Below.setCell ?_ ?_ _ | with_reducible apply Below.drew | with_reducible apply below_drewN | with_reducible refine below_call ?_ (by with_reducible assumption) ?_) <;> (first | omega | (simp; done) | (simp; omega) | (simp at *; omega))), rfl⟩
set_option maxHeartbeats 4000000 in
theorem rtake_kind (A : Option Addr) (n cap : Nat) (L : List Nat) (a d k : Nat) (w : World) (hb : Bytes w A n L) (ha : a < n) (hd : d ≤ 15) (hk : L[a]? = some k) (hk3 : 2 < k) :
    Calls Try.prog 39 #[.slice A n cap, .int .i64 (a : Int), .int .i64 (d : Int)] w (Taken w (.error (4, a))) := by
  have hne : ((a : Int) == (n : Int)) = false := by simp; omega
  have hd15 : ¬ (15 : Int) < (d : Int) := by omega
  obtain ⟨ad, k', rfl, hk', hk2, hkc⟩ := hb.at_ ha
  obtain rfl : k = k' := by rw [hk] at hk'; injection hk'
  have j0 : (0 : Int) ≤ (a : Int) := by omega
  have j1 : (a : Int) < (n : Int) := by omega
  have hk4 : (2 : Int) < (k : Int) := by omega
  have hw1 : IntKind.i64.wrap (k : Int) = (k : Int) := IntWalk.i64_in _ (by omega)
  have hw2 : wrap64 (k : Int) = (k : Int) := by simp only [wrap64]; omega
  have hkc2 := cell_alloc (o := .cells #[.int .i64 0, .int .u64 0, .string ByteArray.empty, .slice none 0 0, .int .i64 0, .int .i64 0, .int .i64 0] 73) hkc
  clear hb hk hk'
  go_enter Try.func39, Try.ntmps39
  go_wp2_with fail
  refine bodyPost_ret (v := gotItem 0 0 ByteArray.empty none 0 0 0 4 a) (by simp [results, Try.results39, go_sem, *, gotItem] <;> rfl) rfl ?_
  exact ⟨by ((repeat' first | with_reducible exact Below.refl _ _ | with_reducible assumption | with_reducible refine Below.alloc ?_ ?_ _ | with_reducible refine Below.setCell ?_ ?_ _ | with_reducible apply Below.drew | with_reducible apply below_drewN | with_reducible refine below_call ?_ (by with_reducible assumption) ?_) <;> (first | omega | (simp; done) | (simp; omega) | (simp at *; omega))), rfl⟩
end Go.Proofs.Ytekbebekihcnpaa
