/- The document's numeral. -/
import Derived.Test.YtmlhlananooclaaDoorBase
import Derived.Lib.SmallJoins
import Derived.Lib.ItoaNum
import Derived.Lib.SlBytesRow
import Derived.Test.YtmlhlananooclaaDoorReg
import Derived.WalkKit
import Derived.WalkSpells
import Derived.WalkLawsBesides
import Derived.Deep.RegionHeld3
import Derived.Deep.DrawnRows
import Derived.Deep.DeepCutAuto
import Derived.Deep.DeepFit
import Derived.Lib.Hide
import Derived.BigQuiet
import Derived.Deep.QuietTactic
namespace Go.Proofs.YtmlhlananooclaaDoor
open Go.RowKit
set_option linter.unusedVariables false
set_option linter.unusedSimpArgs false
set_option maxRecDepth 20000
attribute [local go_sem ↓] Go.wp_at_zero Go.wp_at_succ
attribute [local go_sem] World.cell?_alloc_some frozen_alloc_some
open Go.Lib

def dg8 (n : Nat) : UInt8 := UInt8.ofNat (48 + n)
def digR (u : Nat) : List UInt8 := if u < 10 then [] else decDigits (u / 10)
theorem digR_small {u : Nat} (h : u < 10) : digR u = [] := by unfold digR; rw [if_pos h]
theorem digR_step {u : Nat} (h : 9 < u) : digR u = digR (u / 10) ++ [dg8 (u / 10 % 10)] := by
  have hn : ¬ u < 10 := by omega
  rw [digR, if_neg hn, decDigits, digR]
  by_cases h1 : u / 10 < 10
  · rw [dif_pos h1, if_pos h1]; unfold dg8; rw [Nat.mod_eq_of_lt h1]; rfl
  · rw [dif_neg h1, if_neg h1]; rfl
theorem digR_start (u : Nat) : decDigits u = digR u ++ [dg8 (u % 10)] := by
  rw [decDigits, digR]
  by_cases h1 : u < 10
  · rw [dif_pos h1, if_pos h1]; unfold dg8; rw [Nat.mod_eq_of_lt h1]; rfl
  · rw [dif_neg h1, if_neg h1]; rfl
theorem nDigits_le : ∀ u : Nat, nDigits u ≤ u / 5 + 1 := fun u => by
  induction u using Nat.strongRecOn with
  | _ u ih =>
    by_cases h : u < 10
    · rw [nDigits_small h]; omega
    · rw [nDigits_big h]
      have := ih (u / 10) (by omega)
      omega
theorem dec_len (u : Nat) : (decDigits u).length ≤ u / 5 + 1 := by rw [decDigits_length]; exact nDigits_le u
theorem str_size (l : List UInt8) : (ByteArray.mk l.toArray).size = l.length := by simp [ByteArray.size]
theorem str_add (l m : List UInt8) : ByteArray.mk l.toArray ++ ByteArray.mk m.toArray = ByteArray.mk (l ++ m).toArray := by
  apply ByteArray.ext
  simp
theorem conv_one (W : World) (g c : Nat) (v : Nat) (hv : v < 256) (h : W.cell? ⟨g, 0, none⟩ = some (.int .u8 v)) :
    (convert 53 9 (.slice (some ⟨g, 0, none⟩) 1 c)).run Tryd.prog W = .ok (.string ⟨#[UInt8.ofNat v]⟩) W := by
  have hb : Lib.Bytes W g 0 ⟨#[UInt8.ofNat v]⟩ := fun i hi => by
    have hi0 : i = 0 := by have : (ByteArray.mk #[UInt8.ofNat v]).size = 1 := rfl; omega
    subst hi0
    rw [Nat.add_zero, h]
    have e : (ByteArray.mk #[UInt8.ofNat v])[0] = UInt8.ofNat v := rfl
    rw [e, UInt8.toNat_ofNat', Nat.mod_eq_of_lt (by omega)]
  exact Lib.run_convert_whole (P := Tryd.prog) W 53 5 9 Tryd.underlying53 Tryd.underlying5 Tryd.underlying9 g 0 ⟨#[UInt8.ofNat v]⟩ hb c
theorem conv_a (w : World) (c u : Nat) : (convert 53 9 (.slice (some ⟨w.heap.size, 0, none⟩) 1 c)).run Tryd.prog (w.alloc (.cells #[.int .u8 (48 + (u : Int) % 10)] 5)) = .ok (.string ⟨#[dg8 (u % 10)]⟩) (w.alloc (.cells #[.int .u8 (48 + (u : Int) % 10)] 5)) :=
  conv_one _ _ _ (48 + u % 10) (by omega) (by
    have h := (new_cell w #[.int .u8 (48 + (u : Int) % 10)] 5 0 rfl).1
    rw [h]
    congr 1)
theorem conv_b (w : World) (c u : Nat) : (convert 53 9 (.slice (some ⟨w.heap.size, 0, none⟩) 1 c)).run Tryd.prog (w.alloc (.cells #[.int .u8 (48 + (u : Int) / 10 % 10)] 5)) = .ok (.string ⟨#[dg8 (u / 10 % 10)]⟩) (w.alloc (.cells #[.int .u8 (48 + (u : Int) / 10 % 10)] 5)) :=
  conv_one _ _ _ (48 + u / 10 % 10) (by omega) (by
    have h := (new_cell w #[.int .u8 (48 + (u : Int) / 10 % 10)] 5 0 rfl).1
    rw [h]
    congr 1)
section
attribute [local go_sem ↓ high] conv_a conv_b
set_option maxHeartbeats 1000000 in
theorem text01_nat (u : Nat) (w : World) (hu : u < 9223372036854775808) :
    Calls Tryd.prog 36 #[.int .i64 u] w (Gives w (.string ⟨(decDigits u).toArray⟩)) := by
  have n0 : ¬ (u : Int) < 0 := by omega
  go_enter Tryd.func36, Tryd.ntmps36
  go_wp2_with fail
  go_loopw [0, 3] (fun s0 s3 wr => ∃ (c : Nat) (t : List UInt8), c < 9223372036854775808 ∧ s0 = .int .i64 c ∧ s3 = .string ⟨(dg8 (c % 10) :: t).toArray⟩ ∧ decDigits u = digR c ++ dg8 (c % 10) :: t ∧ Below w.heap.size w wr) (fun s0 _ _ => (RowKit.intOf s0).toNat)
  case atStart => exact ⟨u, [], hu, rfl, rfl, digR_start u, by ((repeat' first | with_reducible exact Below.refl _ _ | with_reducible assumption | with_reducible refine Below.alloc ?_ ?_ _ | with_reducible refine Below.setCell ?_ ?_ _ | with_reducible apply Below.drew | with_reducible apply below_drewN | with_reducible refine below_call ?_ (by with_reducible assumption) ?_) <;> (first | omega | (simp; done) | (simp; omega) | (simp at *; omega)))⟩
  case round =>
    obtain ⟨c, t, hc, rfl, rfl, hd, hbr⟩ := hrel
    have hzr := hbr.size
    have Hd := Lib.hid hd
    clear hd
    by_cases h9 : 9 < c
    · have h9' : (9 : Int) < (c : Int) := by omega
      have c0 : (0 : Int) ≤ (c : Int) := by omega
      have c1 : (0 : Int) ≤ (c : Int) / 10 := by omega
      have hl : ¬ (9223372036854775807 < 1 + (t.length + 1)) := by
        have := dec_len u
        rw [Hd.out, List.length_append, List.length_cons] at this
        omega
      go_wp2_with fail
      go_roundw
      case rel => exact ⟨c / 10, dg8 (c % 10) :: t, by omega, by simp, congrArg Value.string (str_add [_] _), by rw [Hd.out, digR_step h9]; simp, by ((repeat' first | with_reducible exact Below.refl _ _ | with_reducible assumption | with_reducible refine Below.alloc ?_ ?_ _ | with_reducible refine Below.setCell ?_ ?_ _ | with_reducible apply Below.drew | with_reducible apply below_drewN | with_reducible refine below_call ?_ (by with_reducible assumption) ?_) <;> (first | omega | (simp; done) | (simp; omega) | (simp at *; omega)))⟩
      case measure => simp [RowKit.intOf]; omega
    · have h9' : ¬ (9 : Int) < (c : Int) := by omega
      go_wp2_with fail
      go_ret
      exact ⟨by rw [Hd.out, digR_small (by omega)]; rfl, by ((repeat' first | with_reducible exact Below.refl _ _ | with_reducible assumption | with_reducible refine Below.alloc ?_ ?_ _ | with_reducible refine Below.setCell ?_ ?_ _ | with_reducible apply Below.drew | with_reducible apply below_drewN | with_reducible refine below_call ?_ (by with_reducible assumption) ?_) <;> (first | omega | (simp; done) | (simp; omega) | (simp at *; omega)))⟩
end
set_option maxHeartbeats 1000000 in
theorem text01_any (n : Int) (w : World) (h0 : -4611686018427387904 ≤ n) (h1 : n ≤ 9223372036854775807) :
    Calls Tryd.prog 36 #[.int .i64 n] w (Gives w (.string ⟨(itoa n).toArray⟩)) := by
  by_cases hn : n < 0
  · obtain ⟨u, hu⟩ : ∃ u : Nat, n = -(u : Int) := ⟨n.natAbs, by omega⟩
    have ht := fun W => text01_nat u W (by omega)
    rw [show itoa n = 45 :: decDigits u from by unfold itoa; rw [if_pos hn]; congr 1; rw [hu]; simp]
    subst hu
    have hw : IntKind.i64.wrap (u : Int) = u := IntWalk.i64_in _ (by omega)
    have hl : ¬ (9223372036854775807 < 1 + (decDigits u).length) := by
      have := dec_len u
      omega
    clear h0 h1
    go_enter Tryd.func36, Tryd.ntmps36
    go_wp2_with (go_at_call 36; refine (ht _).mono ?_; rintro e w1 ⟨rfl, hb1⟩)
    go_ret
    exact ⟨congrArg (fun x => Ending.returned (Value.string x)) (str_add [45] _), hb1⟩
  · obtain ⟨u, rfl⟩ : ∃ u : Nat, n = (u : Int) := ⟨n.toNat, by omega⟩
    have h := text01_nat u w (by omega)
    rwa [show itoa (u : Int) = decDigits u from by unfold itoa; rw [if_neg hn]; simp]
end Go.Proofs.YtmlhlananooclaaDoor
