/- tally.Pre: where it goes on with what all are together. -/
import Derived.Test.YtmgiholmhhjpaaaJoined
import Derived.WalkKit
import Derived.WalkSpells
import Derived.WalkLawsBesides
import Derived.Deep.RegionHeld3
import Derived.Deep.DrawnRows
import Derived.Deep.DeepCutAuto
import Derived.Deep.DeepFit
import Derived.Lib.Hide
import Derived.BigQuiet
import Derived.Deep.QuietTactic
namespace Go.Proofs.Ytmgiholmhhjpaaa
open Go.RowKit
set_option linter.unusedVariables false
set_option linter.unusedSimpArgs false
set_option maxRecDepth 20000
attribute [local go_sem ↓] Go.wp_at_zero Go.wp_at_succ
attribute [local go_sem] World.cell?_alloc_some frozen_alloc_some

set_option maxHeartbeats 4000000 in
theorem pre_accept (n : Int) (A A2 : Option Addr) (m c m2 c2 : Nat) (q t : Int) (l : List IdP) (ats : List AttrT) (fast late : Bool) (w : World) (h1 : IdsAt w A m l) (h2 : AttrsAt w A2 m2 ats) (hok : acheck ⟨l, q, t⟩ = 0)
    (hp : ∀ (i : Nat) (a : AttrT), ats[i]? = some a → a.p = ⟨l, q, t⟩) (hs : allsame ⟨l, q, t⟩ ats = true) (hm2 : m2 ≤ 1000000) (hn : 0 < n) (hnw : (Lit.int .i64 n).wf = true) (hno : ¬ (fast = true ∧ n ≤ m2 + 1)) (hqn : quo n ≤ (m2 : Int) + 1) (hl : ¬ (fast = true ∧ late = false)) :
    Calls Try.prog 6 #[.int .i64 n, .agg #[.slice A m c, .int .i64 q, .int .i64 t], .slice A2 m2 c2, .bool fast, .bool late] w
      (fun e w' => ∃ A' c', e = .returned (decV 2 A' m c' q t) ∧ Below w.heap.size w w') := by
  have hcall := fun W (hb : Below w.heap.size w W) => tsame_any A A2 m c m2 c2 q t l ats W (h1.keep hb) (h2.keep hb)
  have hjn := fun W (hb : Below w.heap.size w W) => joined_any A A2 m c m2 c2 q t l ats W (h1.keep hb) (h2.keep hb) hok hp hm2
  rw [hs] at hcall
  have hmm : (m2 : Int) ≤ 9223372036854775806 := by omega
  have hw : IntKind.i64.wrap ((m2 : Int) + 1) = (m2 : Int) + 1 := IntWalk.i64_in _ (by omega)
  have hmx : max n 0 = n := by omega
  have hfq := fun W => fastquorum_any n W
  have hqu := fun W => quorum_any n W hnw
  rw [hmx] at hfq
  clear h1 h2 hs hmx hnw hp hok
  have hn1 : ¬ n < 1 := by omega
  generalize quo n = qn at *
  have hq : ¬ (m2 : Int) + 1 < qn := by omega
  have Hno := Lib.hid hno
  have Hl := Lib.hid hl
  clear hno hl hqn
  unfold decV
  cases fast
  · go_enter Try.func6, Try.ntmps6
    go_wp2_with (first | (go_at_call 11; go_loud (refine (hcall _ (by ((repeat' first | with_reducible exact Below.refl _ _ | with_reducible assumption | with_reducible refine Below.alloc ?_ ?_ _ | with_reducible refine Below.setCell ?_ ?_ _ | with_reducible apply Below.drew | with_reducible apply below_drewN | with_reducible refine below_call ?_ (by with_reducible assumption) ?_) <;> (first | omega | (simp; done) | (simp; omega) | (simp at *; omega))))).mono ?_; rintro e w1 ⟨rfl, hb1⟩; have hz1 := hb1.size; (try simp at hz1); have B0 : Blk w1 (w.heap.size) 24 #[.slice A m c, .int .i64 q, .int .i64 t] := (by (have h := Blk.keep ((Blk.new w _ _).alloc _) hb1; first | exact h | (simpa only [World.size_alloc] using h))); have B0c := B0.cell; have B0f := B0.frozen; have B1 : Blk w1 (w.heap.size + 1) 32 #[.int .i64 0, .int .i64 0, .int .i64 0, .int .i64 0, .string ⟨#[]⟩, .string ⟨#[]⟩, .int .i64 0, .slice none 0 0, .int .i64 0, .int .i64 0] := (by (have h := Blk.keep (Blk.new (w.alloc _) _ _) hb1; first | exact h | (simpa only [World.size_alloc] using h))); have B1c := B1.cell; have B1f := B1.frozen)) | (go_at_call 10; refine (hfq _).mono ?_; rintro e w2 ⟨rfl, rfl⟩) | (go_at_call 7; refine (hqu _).mono ?_; rintro e w2 ⟨rfl, rfl⟩) | (go_at_call 12; (with_reducible refine (hjn _ (by ((repeat' first | with_reducible exact Below.refl _ _ | with_reducible assumption | with_reducible refine Below.alloc ?_ ?_ _ | with_reducible refine Below.setCell ?_ ?_ _ | with_reducible apply Below.drew | with_reducible apply below_drewN | with_reducible refine below_call ?_ (by with_reducible assumption) ?_) <;> (first | omega | (simp; done) | (simp; omega) | (simp at *; omega))))).mono ?_); rintro e w3 ⟨A3, c3, rfl, hb3⟩; have hz3 := hb3.size; (try simp at hz3); have B1' := B1.keep hb3; have B1c' := B1'.cell; have B1f' := B1'.frozen; have k3 : Below w.heap.size w w3 := (by ((repeat' first | with_reducible exact Below.refl _ _ | with_reducible assumption | with_reducible refine Below.alloc ?_ ?_ _ | with_reducible refine Below.setCell ?_ ?_ _ | with_reducible apply Below.drew | with_reducible apply below_drewN | with_reducible refine below_call ?_ (by with_reducible assumption) ?_) <;> (first | omega | (simp; done) | (simp; omega) | (simp at *; omega))))))
    refine bodyPost_ret (v := decV 2 A3 m c3 q t) (by simp [results, Try.results6, go_sem, decV, *]; rfl) rfl ?_
    exact ⟨A3, c3, rfl, by ((repeat' first | with_reducible exact Below.refl _ _ | with_reducible assumption | with_reducible refine Below.alloc ?_ ?_ _ | with_reducible refine Below.setCell ?_ ?_ _ | with_reducible apply Below.drew | with_reducible apply below_drewN | with_reducible refine below_call ?_ (by with_reducible assumption) ?_) <;> (first | omega | (simp; done) | (simp; omega) | (simp at *; omega)))⟩
  · have hk : ¬ n ≤ (m2 : Int) + 1 := fun h => Hno.out ⟨rfl, h⟩
    obtain rfl : late = true := by cases late; exact absurd ⟨rfl, rfl⟩ Hl.out; rfl
    go_enter Try.func6, Try.ntmps6
    go_wp2_with (first | (go_at_call 11; go_loud (refine (hcall _ (by ((repeat' first | with_reducible exact Below.refl _ _ | with_reducible assumption | with_reducible refine Below.alloc ?_ ?_ _ | with_reducible refine Below.setCell ?_ ?_ _ | with_reducible apply Below.drew | with_reducible apply below_drewN | with_reducible refine below_call ?_ (by with_reducible assumption) ?_) <;> (first | omega | (simp; done) | (simp; omega) | (simp at *; omega))))).mono ?_; rintro e w1 ⟨rfl, hb1⟩; have hz1 := hb1.size; (try simp at hz1); have B0 : Blk w1 (w.heap.size) 24 #[.slice A m c, .int .i64 q, .int .i64 t] := (by (have h := Blk.keep ((Blk.new w _ _).alloc _) hb1; first | exact h | (simpa only [World.size_alloc] using h))); have B0c := B0.cell; have B0f := B0.frozen; have B1 : Blk w1 (w.heap.size + 1) 32 #[.int .i64 0, .int .i64 0, .int .i64 0, .int .i64 0, .string ⟨#[]⟩, .string ⟨#[]⟩, .int .i64 0, .slice none 0 0, .int .i64 0, .int .i64 0] := (by (have h := Blk.keep (Blk.new (w.alloc _) _ _) hb1; first | exact h | (simpa only [World.size_alloc] using h))); have B1c := B1.cell; have B1f := B1.frozen)) | (go_at_call 10; refine (hfq _).mono ?_; rintro e w2 ⟨rfl, rfl⟩) | (go_at_call 7; refine (hqu _).mono ?_; rintro e w2 ⟨rfl, rfl⟩) | (go_at_call 12; (with_reducible refine (hjn _ (by ((repeat' first | with_reducible exact Below.refl _ _ | with_reducible assumption | with_reducible refine Below.alloc ?_ ?_ _ | with_reducible refine Below.setCell ?_ ?_ _ | with_reducible apply Below.drew | with_reducible apply below_drewN | with_reducible refine below_call ?_ (by with_reducible assumption) ?_) <;> (first | omega | (simp; done) | (simp; omega) | (simp at *; omega))))).mono ?_); rintro e w3 ⟨A3, c3, rfl, hb3⟩; have hz3 := hb3.size; (try simp at hz3); have B1' := B1.keep hb3; have B1c' := B1'.cell; have B1f' := B1'.frozen; have k3 : Below w.heap.size w w3 := (by ((repeat' first | with_reducible exact Below.refl _ _ | with_reducible assumption | with_reducible refine Below.alloc ?_ ?_ _ | with_reducible refine Below.setCell ?_ ?_ _ | with_reducible apply Below.drew | with_reducible apply below_drewN | with_reducible refine below_call ?_ (by with_reducible assumption) ?_) <;> (first | omega | (simp; done) | (simp; omega) | (simp at *; omega))))))
    refine bodyPost_ret (v := decV 2 A3 m c3 q t) (by simp [results, Try.results6, go_sem, decV, *]; rfl) rfl ?_
    exact ⟨A3, c3, rfl, by ((repeat' first | with_reducible exact Below.refl _ _ | with_reducible assumption | with_reducible refine Below.alloc ?_ ?_ _ | with_reducible refine Below.setCell ?_ ?_ _ | with_reducible apply Below.drew | with_reducible apply below_drewN | with_reducible refine below_call ?_ (by with_reducible assumption) ?_) <;> (first | omega | (simp; done) | (simp; omega) | (simp at *; omega)))⟩
end Go.Proofs.Ytmgiholmhhjpaaa
