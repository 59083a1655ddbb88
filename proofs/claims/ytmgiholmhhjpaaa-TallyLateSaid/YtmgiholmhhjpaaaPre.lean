/- tally.Pre: where it commits at once, where it waits. -/
import Derived.Test.YtmgiholmhhjpaaaTally
import Derived.WalkKit
import Derived.WalkSpells
import Derived.WalkLawsBesides
import Derived.Deep.RegionHeld3
import Derived.Deep.DrawnRows
import Derived.Deep.DeepCutAuto
import Derived.Deep.DeepFit
import Derived.Lib.Hide
import Derived.BigQuiet
import Derived.Deep.QuietTactic
namespace Go.Proofs.Ytmgiholmhhjpaaa
open Go.RowKit
set_option linter.unusedVariables false
set_option linter.unusedSimpArgs false
set_option maxRecDepth 20000
attribute [local go_sem ↓] Go.wp_at_zero Go.wp_at_succ
attribute [local go_sem] World.cell?_alloc_some frozen_alloc_some

/-- A decision without a command. -/
def decV (d : Int) (A : Option Addr) (m c : Nat) (q t : Int) : Value := .agg #[.int .i64 d, .int .i64 0, .int .i64 0, .int .i64 0, .string ByteArray.empty, .string ByteArray.empty, .int .i64 0, .slice A m c, .int .i64 q, .int .i64 t]

theorem dec_field0 (d : Int) (A : Option Addr) (m c : Nat) (q t : Int) (w : World) : (Instr.field 32 (.agg #[.int .i64 d, .int .i64 0, .int .i64 0, .int .i64 0, .string ByteArray.empty, .string ByteArray.empty, .int .i64 0, .slice A m c, .int .i64 q, .int .i64 t]) 0).run Try.prog w = .ok (.int .i64 d) w := by kernel_rfl
set_option maxHeartbeats 1000000 in
theorem pre_commit (n : Int) (A A2 : Option Addr) (m c m2 c2 : Nat) (q t : Int) (l : List IdP) (ats : List AttrT) (late : Bool) (w : World) (h1 : IdsAt w A m l) (h2 : AttrsAt w A2 m2 ats)
    (hs : allsame ⟨l, q, t⟩ ats = true) (hm2 : m2 ≤ 1000000) (hn : 0 < n) (hk : n ≤ m2 + 1) :
    Calls Try.prog 6 #[.int .i64 n, .agg #[.slice A m c, .int .i64 q, .int .i64 t], .slice A2 m2 c2, .bool true, .bool late] w (Gives w (decV 1 A m c q t)) := by
  have hcall := fun W (hb : Below w.heap.size w W) => tsame_any A A2 m c m2 c2 q t l ats W (h1.keep hb) (h2.keep hb)
  rw [hs] at hcall
  have hmm : (m2 : Int) ≤ 9223372036854775806 := by omega
  have hw : IntKind.i64.wrap ((m2 : Int) + 1) = (m2 : Int) + 1 := IntWalk.i64_in _ (by omega)
  have hmx : max n 0 = n := by omega
  have hfq := fun W => fastquorum_any n W
  rw [hmx] at hfq
  clear h1 h2 hs hmx
  unfold decV
  go_enter Try.func6, Try.ntmps6
  go_wp2_with (first | (go_at_call 11; go_loud (refine (hcall _ (by ((repeat' first | with_reducible exact Below.refl _ _ | with_reducible assumption | with_reducible refine Below.alloc ?_ ?_ _ | with_reducible refine Below.setCell ?_ ?_ _ | with_reducible apply Below.drew | with_reducible apply below_drewN | with_reducible refine below_call ?_ (by with_reducible assumption) ?_) <;> (first | omega | (simp; done) | (simp; omega) | (simp at *; omega))))).mono ?_; rintro e w1 ⟨rfl, hb1⟩; have hz1 := hb1.size; (try simp at hz1); have B0 : Blk w1 (w.heap.size) 24 #[.slice A m c, .int .i64 q, .int .i64 t] := (by (have h := Blk.keep ((Blk.new w _ _).alloc _) hb1; first | exact h | (simpa only [World.size_alloc] using h))); have B0c := B0.cell; have B0f := B0.frozen; have B1 : Blk w1 (w.heap.size + 1) 32 #[.int .i64 0, .int .i64 0, .int .i64 0, .int .i64 0, .string ⟨#[]⟩, .string ⟨#[]⟩, .int .i64 0, .slice none 0 0, .int .i64 0, .int .i64 0] := (by (have h := Blk.keep (Blk.new (w.alloc _) _ _) hb1; first | exact h | (simpa only [World.size_alloc] using h))); have B1c := B1.cell; have B1f := B1.frozen)) | (go_at_call 10; refine (hfq _).mono ?_; rintro e w2 ⟨rfl, rfl⟩))
  refine bodyPost_ret (v := decV 1 A m c q t) (by simp [results, Try.results6, go_sem, decV, *]; rfl) rfl ?_
  exact ⟨rfl, by ((repeat' first | with_reducible exact Below.refl _ _ | with_reducible assumption | with_reducible refine Below.alloc ?_ ?_ _ | with_reducible refine Below.setCell ?_ ?_ _ | with_reducible apply Below.drew | with_reducible apply below_drewN | with_reducible refine below_call ?_ (by with_reducible assumption) ?_) <;> (first | omega | (simp; done) | (simp; omega) | (simp at *; omega)))⟩

set_option maxHeartbeats 2000000 in
theorem pre_wait (n : Int) (A A2 : Option Addr) (m c m2 c2 : Nat) (q t : Int) (l : List IdP) (ats : List AttrT) (fast late al : Bool) (w : World) (h1 : IdsAt w A m l) (h2 : AttrsAt w A2 m2 ats)
    (hs : allsame ⟨l, q, t⟩ ats = al) (hm2 : m2 ≤ 1000000) (hn : 0 < n) (hnw : (Lit.int .i64 n).wf = true) (hno : ¬ (fast = true ∧ al = true ∧ n ≤ m2 + 1)) (hwait : (m2 : Int) + 1 < quo n ∨ fast = true ∧ al = true ∧ late = false) :
    Calls Try.prog 6 #[.int .i64 n, .agg #[.slice A m c, .int .i64 q, .int .i64 t], .slice A2 m2 c2, .bool fast, .bool late] w (Gives w (decV 0 none 0 0 0 0)) := by
  have hcall := fun W (hb : Below w.heap.size w W) => tsame_any A A2 m c m2 c2 q t l ats W (h1.keep hb) (h2.keep hb)
  rw [hs] at hcall
  have hmm : (m2 : Int) ≤ 9223372036854775806 := by omega
  have hw : IntKind.i64.wrap ((m2 : Int) + 1) = (m2 : Int) + 1 := IntWalk.i64_in _ (by omega)
  have hmx : max n 0 = n := by omega
  have hfq := fun W => fastquorum_any n W
  have hqu := fun W => quorum_any n W hnw
  rw [hmx] at hfq
  clear h1 h2 hs hmx hnw
  have hn1 : ¬ n < 1 := by omega
  generalize quo n = qn at *
  have Hno := Lib.hid hno
  have Hwait := Lib.hid hwait
  clear hno hwait
  by_cases hq : (m2 : Int) + 1 < qn
  · cases fast
    · go_enter Try.func6, Try.ntmps6
      go_wp2_with (first | (go_at_call 11; go_loud (refine (hcall _ (by ((repeat' first | with_reducible exact Below.refl _ _ | with_reducible assumption | with_reducible refine Below.alloc ?_ ?_ _ | with_reducible refine Below.setCell ?_ ?_ _ | with_reducible apply Below.drew | with_reducible apply below_drewN | with_reducible refine below_call ?_ (by with_reducible assumption) ?_) <;> (first | omega | (simp; done) | (simp; omega) | (simp at *; omega))))).mono ?_; rintro e w1 ⟨rfl, hb1⟩; have hz1 := hb1.size; (try simp at hz1); have B0 : Blk w1 (w.heap.size) 24 #[.slice A m c, .int .i64 q, .int .i64 t] := (by (have h := Blk.keep ((Blk.new w _ _).alloc _) hb1; first | exact h | (simpa only [World.size_alloc] using h))); have B0c := B0.cell; have B0f := B0.frozen; have B1 : Blk w1 (w.heap.size + 1) 32 #[.int .i64 0, .int .i64 0, .int .i64 0, .int .i64 0, .string ⟨#[]⟩, .string ⟨#[]⟩, .int .i64 0, .slice none 0 0, .int .i64 0, .int .i64 0] := (by (have h := Blk.keep (Blk.new (w.alloc _) _ _) hb1; first | exact h | (simpa only [World.size_alloc] using h))); have B1c := B1.cell; have B1f := B1.frozen)) | (go_at_call 10; refine (hfq _).mono ?_; rintro e w2 ⟨rfl, rfl⟩) | (go_at_call 7; refine (hqu _).mono ?_; rintro e w2 ⟨rfl, rfl⟩))
      (refine bodyPost_ret (v := decV 0 none 0 0 0 0) (by simp [results, Try.results6, go_sem, decV, *]; rfl) rfl ?_; exact ⟨rfl, by ((repeat' first | with_reducible exact Below.refl _ _ | with_reducible assumption | with_reducible refine Below.alloc ?_ ?_ _ | with_reducible refine Below.setCell ?_ ?_ _ | with_reducible apply Below.drew | with_reducible apply below_drewN | with_reducible refine below_call ?_ (by with_reducible assumption) ?_) <;> (first | omega | (simp; done) | (simp; omega) | (simp at *; omega)))⟩)
    · cases al
      · go_enter Try.func6, Try.ntmps6
        go_wp2_with (first | (go_at_call 11; go_loud (refine (hcall _ (by ((repeat' first | with_reducible exact Below.refl _ _ | with_reducible assumption | with_reducible refine Below.alloc ?_ ?_ _ | with_reducible refine Below.setCell ?_ ?_ _ | with_reducible apply Below.drew | with_reducible apply below_drewN | with_reducible refine below_call ?_ (by with_reducible assumption) ?_) <;> (first | omega | (simp; done) | (simp; omega) | (simp at *; omega))))).mono ?_; rintro e w1 ⟨rfl, hb1⟩; have hz1 := hb1.size; (try simp at hz1); have B0 : Blk w1 (w.heap.size) 24 #[.slice A m c, .int .i64 q, .int .i64 t] := (by (have h := Blk.keep ((Blk.new w _ _).alloc _) hb1; first | exact h | (simpa only [World.size_alloc] using h))); have B0c := B0.cell; have B0f := B0.frozen; have B1 : Blk w1 (w.heap.size + 1) 32 #[.int .i64 0, .int .i64 0, .int .i64 0, .int .i64 0, .string ⟨#[]⟩, .string ⟨#[]⟩, .int .i64 0, .slice none 0 0, .int .i64 0, .int .i64 0] := (by (have h := Blk.keep (Blk.new (w.alloc _) _ _) hb1; first | exact h | (simpa only [World.size_alloc] using h))); have B1c := B1.cell; have B1f := B1.frozen)) | (go_at_call 10; refine (hfq _).mono ?_; rintro e w2 ⟨rfl, rfl⟩) | (go_at_call 7; refine (hqu _).mono ?_; rintro e w2 ⟨rfl, rfl⟩))
        (refine bodyPost_ret (v := decV 0 none 0 0 0 0) (by simp [results, Try.results6, go_sem, decV, *]; rfl) rfl ?_; exact ⟨rfl, by ((repeat' first | with_reducible exact Below.refl _ _ | with_reducible assumption | with_reducible refine Below.alloc ?_ ?_ _ | with_reducible refine Below.setCell ?_ ?_ _ | with_reducible apply Below.drew | with_reducible apply below_drewN | with_reducible refine below_call ?_ (by with_reducible assumption) ?_) <;> (first | omega | (simp; done) | (simp; omega) | (simp at *; omega)))⟩)
      · have hk : ¬ n ≤ (m2 : Int) + 1 := fun h => Hno.out ⟨rfl, rfl, h⟩
        go_enter Try.func6, Try.ntmps6
        go_wp2_with (first | (go_at_call 11; go_loud (refine (hcall _ (by ((repeat' first | with_reducible exact Below.refl _ _ | with_reducible assumption | with_reducible refine Below.alloc ?_ ?_ _ | with_reducible refine Below.setCell ?_ ?_ _ | with_reducible apply Below.drew | with_reducible apply below_drewN | with_reducible refine below_call ?_ (by with_reducible assumption) ?_) <;> (first | omega | (simp; done) | (simp; omega) | (simp at *; omega))))).mono ?_; rintro e w1 ⟨rfl, hb1⟩; have hz1 := hb1.size; (try simp at hz1); have B0 : Blk w1 (w.heap.size) 24 #[.slice A m c, .int .i64 q, .int .i64 t] := (by (have h := Blk.keep ((Blk.new w _ _).alloc _) hb1; first | exact h | (simpa only [World.size_alloc] using h))); have B0c := B0.cell; have B0f := B0.frozen; have B1 : Blk w1 (w.heap.size + 1) 32 #[.int .i64 0, .int .i64 0, .int .i64 0, .int .i64 0, .string ⟨#[]⟩, .string ⟨#[]⟩, .int .i64 0, .slice none 0 0, .int .i64 0, .int .i64 0] := (by (have h := Blk.keep (Blk.new (w.alloc _) _ _) hb1; first | exact h | (simpa only [World.size_alloc] using h))); have B1c := B1.cell; have B1f := B1.frozen)) | (go_at_call 10; refine (hfq _).mono ?_; rintro e w2 ⟨rfl, rfl⟩) | (go_at_call 7; refine (hqu _).mono ?_; rintro e w2 ⟨rfl, rfl⟩))
        (refine bodyPost_ret (v := decV 0 none 0 0 0 0) (by simp [results, Try.results6, go_sem, decV, *]; rfl) rfl ?_; exact ⟨rfl, by ((repeat' first | with_reducible exact Below.refl _ _ | with_reducible assumption | with_reducible refine Below.alloc ?_ ?_ _ | with_reducible refine Below.setCell ?_ ?_ _ | with_reducible apply Below.drew | with_reducible apply below_drewN | with_reducible refine below_call ?_ (by with_reducible assumption) ?_) <;> (first | omega | (simp; done) | (simp; omega) | (simp at *; omega)))⟩)
  · obtain ⟨rfl, rfl, rfl⟩ : fast = true ∧ al = true ∧ late = false := by
      rcases Hwait.out with h | h
      · exact absurd h hq
      · exact h
    have hk : ¬ n ≤ (m2 : Int) + 1 := fun h => Hno.out ⟨rfl, rfl, h⟩
    go_enter Try.func6, Try.ntmps6
    go_wp2_with (first | (go_at_call 11; go_loud (refine (hcall _ (by ((repeat' first | with_reducible exact Below.refl _ _ | with_reducible assumption | with_reducible refine Below.alloc ?_ ?_ _ | with_reducible refine Below.setCell ?_ ?_ _ | with_reducible apply Below.drew | with_reducible apply below_drewN | with_reducible refine below_call ?_ (by with_reducible assumption) ?_) <;> (first | omega | (simp; done) | (simp; omega) | (simp at *; omega))))).mono ?_; rintro e w1 ⟨rfl, hb1⟩; have hz1 := hb1.size; (try simp at hz1); have B0 : Blk w1 (w.heap.size) 24 #[.slice A m c, .int .i64 q, .int .i64 t] := (by (have h := Blk.keep ((Blk.new w _ _).alloc _) hb1; first | exact h | (simpa only [World.size_alloc] using h))); have B0c := B0.cell; have B0f := B0.frozen; have B1 : Blk w1 (w.heap.size + 1) 32 #[.int .i64 0, .int .i64 0, .int .i64 0, .int .i64 0, .string ⟨#[]⟩, .string ⟨#[]⟩, .int .i64 0, .slice none 0 0, .int .i64 0, .int .i64 0] := (by (have h := Blk.keep (Blk.new (w.alloc _) _ _) hb1; first | exact h | (simpa only [World.size_alloc] using h))); have B1c := B1.cell; have B1f := B1.frozen)) | (go_at_call 10; refine (hfq _).mono ?_; rintro e w2 ⟨rfl, rfl⟩) | (go_at_call 7; refine (hqu _).mono ?_; rintro e w2 ⟨rfl, rfl⟩))
    (refine bodyPost_ret (v := decV 0 none 0 0 0 0) (by simp [results, Try.results6, go_sem, decV, *]; rfl) rfl ?_; exact ⟨rfl, by ((repeat' first | with_reducible exact Below.refl _ _ | with_reducible assumption | with_reducible refine Below.alloc ?_ ?_ _ | with_reducible refine Below.setCell ?_ ?_ _ | with_reducible apply Below.drew | with_reducible apply below_drewN | with_reducible refine below_call ?_ (by with_reducible assumption) ?_) <;> (first | omega | (simp; done) | (simp; omega) | (simp at *; omega)))⟩)
end Go.Proofs.Ytmgiholmhhjpaaa
