/- The walk of attr.Old: an item, and an error's number. -/
import Derived.Test.YtfdfcceleaodaaaAttrItemsQ24
import Derived.Test.YtfdfcceleaodaaaAttrItemsQ21
import Derived.WalkKit
import Derived.WalkSpells
import Derived.WalkLawsBesides
import Derived.Deep.RegionHeld3
import Derived.Deep.DrawnRows
import Derived.Deep.DeepCutAuto
import Derived.Deep.DeepFit
import Derived.Lib.Hide
import Derived.BigQuiet
import Derived.Deep.QuietTactic
namespace Go.Proofs.Ytfdfcceleaodaaa
open Go.RowKit
set_option linter.unusedVariables false
set_option linter.unusedSimpArgs false
set_option maxRecDepth 20000
attribute [local go_sem ↓] Go.wp_at_zero Go.wp_at_succ
attribute [local go_sem] World.cell?_alloc_some frozen_alloc_some
attribute [local go_sem] lt2 lt3 lt4 lt5
attribute [local simp] lt2 lt3 lt4 lt5

def oldE (a : AttrP) : Int := if acheck a ≠ 0 then 4 else if a.t ≠ 1 then 17 else 0
set_option maxHeartbeats 4000000 in
theorem attrold_any (A : Option Addr) (m c : Nat) (sq tg : Int) (l : List IdP) (w : World) (h1 : IdsAt w A m l) (hm : m ≤ 1000000) : Calls Try.prog 6 #[.agg #[.slice A m c, .int .i64 sq, .int .i64 tg]] w
    (fun e w' => ∃ (k n : Int) (s : ByteArray) (A' : Option Addr) (m' c' : Nat), e = .returned (.tuple #[.agg #[.int .i64 k, .int .u64 n, .string s, .slice A' m' c'], .int .i64 (oldE ⟨l, sq, tg⟩)]) ∧ (oldE ⟨l, sq, tg⟩ = 0 → HoldsIn w' (fun x => w.heap.size ≤ x) (otree l sq) (.agg #[.int .i64 k, .int .u64 n, .string s, .slice A' m' c'])) ∧ Below w.heap.size w w') := by
  have hck := fun W (hb : Below w.heap.size w W) => attrcheck_any A m c sq tg l W (h1.keep hb)
  have hol := fun W (hb : Below w.heap.size w W) => attroldi_any A m c sq tg l W (h1.keep hb) hm
  obtain ⟨R, hR⟩ : ∃ R, R = oldE ⟨l, sq, tg⟩ := ⟨_, rfl⟩
  rw [← hR]
  unfold oldE at hR
  generalize acheck ⟨l, sq, tg⟩ = g7 at hck hR
  have HR := Lib.hid hR
  have Hck := Lib.hid hck
  unfold listV at hol
  have Hol := Lib.hid hol
  clear hR hck hol h1
  have B0 : Blk ((w.alloc (.cells #[.slice A m c, .int .i64 sq, .int .i64 tg] 24)).alloc (.cells #[.int .i64 0, .int .u64 0, .string ⟨#[]⟩, .slice none 0 0] 28)) w.heap.size 24 #[.slice A m c, .int .i64 sq, .int .i64 tg] := (Blk.new w _ _).alloc _
  have R0 : Blk ((w.alloc (.cells #[.slice A m c, .int .i64 sq, .int .i64 tg] 24)).alloc (.cells #[.int .i64 0, .int .u64 0, .string ⟨#[]⟩, .slice none 0 0] 28)) (w.heap.size + 1) 28 #[.int .i64 0, .int .u64 0, .string ⟨#[]⟩, .slice none 0 0] := Blk.newAt (by simp)
  by_cases z7 : g7 = 0
  case neg =>
    obtain rfl : R = 4 := by rw [HR.out, if_pos z7]
    have z7' : ((g7 : Int) != 0) = true := by simp; omega
    go_enter Try.func6, Try.ntmps6
    go_wp2_with (go_at_call 19; (with_reducible refine (Hck.out _ (by ((repeat' first | with_reducible exact Below.refl _ _ | with_reducible assumption | with_reducible refine Below.alloc ?_ ?_ _ | with_reducible refine Below.setCell ?_ ?_ _ | with_reducible apply Below.drew | with_reducible apply below_drewN | with_reducible refine below_call ?_ (by with_reducible assumption) ?_) <;> (first | omega | (simp; done) | (simp; omega) | (simp at *; omega))))).mono ?_); rintro e w1 ⟨rfl, hb1⟩; have k1 : Below w.heap.size w w1 := (by ((repeat' first | with_reducible exact Below.refl _ _ | with_reducible assumption | with_reducible refine Below.alloc ?_ ?_ _ | with_reducible refine Below.setCell ?_ ?_ _ | with_reducible apply Below.drew | with_reducible apply below_drewN | with_reducible refine below_call ?_ (by with_reducible assumption) ?_) <;> (first | omega | (simp; done) | (simp; omega) | (simp at *; omega)))); have z1 := hb1.size; (try simp at z1); have B1 := B0.keep hb1; have R1 := R0.keep hb1; have B1c := B1.cell; have R1c := R1.cell; have R1f := R1.frozen; clear hb1)
    refine bodyPost_ret (v := .tuple #[.agg #[.int .i64 0, .int .u64 0, .string ByteArray.empty, .slice none 0 0], .int .i64 4]) (by simp [results, Try.results6, go_sem, *] <;> rfl) rfl ?_
    exact ⟨_, _, _, _, _, _, rfl, fun h => absurd h (by decide), by ((repeat' first | with_reducible exact Below.refl _ _ | with_reducible assumption | with_reducible refine Below.alloc ?_ ?_ _ | with_reducible refine Below.setCell ?_ ?_ _ | with_reducible apply Below.drew | with_reducible apply below_drewN | with_reducible refine below_call ?_ (by with_reducible assumption) ?_) <;> (first | omega | (simp; done) | (simp; omega) | (simp at *; omega)))⟩
  subst z7
  by_cases t1 : tg = 1
  case neg =>
    obtain rfl : R = 17 := by rw [HR.out]; simp [t1]
    have t1' : (tg != (1 : Int)) = true := by simp [t1]
    go_enter Try.func6, Try.ntmps6
    go_wp2_with (go_at_call 19; (with_reducible refine (Hck.out _ (by ((repeat' first | with_reducible exact Below.refl _ _ | with_reducible assumption | with_reducible refine Below.alloc ?_ ?_ _ | with_reducible refine Below.setCell ?_ ?_ _ | with_reducible apply Below.drew | with_reducible apply below_drewN | with_reducible refine below_call ?_ (by with_reducible assumption) ?_) <;> (first | omega | (simp; done) | (simp; omega) | (simp at *; omega))))).mono ?_); rintro e w1 ⟨rfl, hb1⟩; have k1 : Below w.heap.size w w1 := (by ((repeat' first | with_reducible exact Below.refl _ _ | with_reducible assumption | with_reducible refine Below.alloc ?_ ?_ _ | with_reducible refine Below.setCell ?_ ?_ _ | with_reducible apply Below.drew | with_reducible apply below_drewN | with_reducible refine below_call ?_ (by with_reducible assumption) ?_) <;> (first | omega | (simp; done) | (simp; omega) | (simp at *; omega)))); have z1 := hb1.size; (try simp at z1); have B1 := B0.keep hb1; have R1 := R0.keep hb1; have B1c := B1.cell; have R1c := R1.cell; have R1f := R1.frozen; clear hb1)
    refine bodyPost_ret (v := .tuple #[.agg #[.int .i64 0, .int .u64 0, .string ByteArray.empty, .slice none 0 0], .int .i64 17]) (by simp [results, Try.results6, go_sem, *] <;> rfl) rfl ?_
    exact ⟨_, _, _, _, _, _, rfl, fun h => absurd h (by decide), by ((repeat' first | with_reducible exact Below.refl _ _ | with_reducible assumption | with_reducible refine Below.alloc ?_ ?_ _ | with_reducible refine Below.setCell ?_ ?_ _ | with_reducible apply Below.drew | with_reducible apply below_drewN | with_reducible refine below_call ?_ (by with_reducible assumption) ?_) <;> (first | omega | (simp; done) | (simp; omega) | (simp at *; omega)))⟩
  have t1' : (tg != (1 : Int)) = false := by simp [t1]
  obtain rfl : R = 0 := by rw [HR.out]; simp [t1]
  clear t1
  go_enter Try.func6, Try.ntmps6
  go_wp2_with (first | (go_at_call 19; (with_reducible refine (Hck.out _ (by ((repeat' first | with_reducible exact Below.refl _ _ | with_reducible assumption | with_reducible refine Below.alloc ?_ ?_ _ | with_reducible refine Below.setCell ?_ ?_ _ | with_reducible apply Below.drew | with_reducible apply below_drewN | with_reducible refine below_call ?_ (by with_reducible assumption) ?_) <;> (first | omega | (simp; done) | (simp; omega) | (simp at *; omega))))).mono ?_); rintro e w1 ⟨rfl, hb1⟩; have k1 : Below w.heap.size w w1 := (by ((repeat' first | with_reducible exact Below.refl _ _ | with_reducible assumption | with_reducible refine Below.alloc ?_ ?_ _ | with_reducible refine Below.setCell ?_ ?_ _ | with_reducible apply Below.drew | with_reducible apply below_drewN | with_reducible refine below_call ?_ (by with_reducible assumption) ?_) <;> (first | omega | (simp; done) | (simp; omega) | (simp at *; omega)))); have z1 := hb1.size; (try simp at z1); have B1 := B0.keep hb1; have R1 := R0.keep hb1; have B1c := B1.cell; have R1c := R1.cell; have R1f := R1.frozen; clear hb1) | (go_at_call 20; (with_reducible refine (Hol.out _ k1).mono ?_); rintro e w2 ⟨A2, c2, rfl, hin2, hb2⟩; have Hin2 := Lib.hid hin2; clear hin2; have z2 := hb2.size; have k2 := below_call k1 hb2 k1.size; have R2 := R1.keep hb2; have R2c := R2.cell; have R2f := R2.frozen))
  refine bodyPost_ret (v := .tuple #[.agg #[.int .i64 2, .int .u64 0, .string ByteArray.empty, .slice A2 2 c2], .int .i64 0]) (by simp [results, Try.results6, go_sem, *] <;> rfl) rfl ?_
  exact ⟨_, _, _, _, _, _, rfl, fun _ => (hin_set4 Hin2.out (by omega) _ _ _ _).mono (fun b hb => by omega), by ((repeat' first | with_reducible exact Below.refl _ _ | with_reducible assumption | with_reducible refine Below.alloc ?_ ?_ _ | with_reducible refine Below.setCell ?_ ?_ _ | with_reducible apply Below.drew | with_reducible apply below_drewN | with_reducible refine below_call ?_ (by with_reducible assumption) ?_) <;> (first | omega | (simp; done) | (simp; omega) | (simp at *; omega)))⟩
end Go.Proofs.Ytfdfcceleaodaaa
