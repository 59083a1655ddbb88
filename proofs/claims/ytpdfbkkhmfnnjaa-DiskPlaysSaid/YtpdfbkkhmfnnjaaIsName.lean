/- disk.isName: what is a name, by the library's runes and by bytes. -/
import Derived.Test.YtpdfbkkhmfnnjaaDiskPl
import Derived.Test.YtpdfbkkhmfnnjaaDiskL
import Derived.Shelf.GgClosure.StringsIndexFuncTop
import Derived.Lib.DecodeN
import Derived.WalkKit
import Derived.WalkSpells
import Derived.WalkLawsBesides
import Derived.Deep.RegionHeld3
import Derived.Deep.DrawnRows
import Derived.Deep.DeepCutAuto
import Derived.Deep.DeepFit
import Derived.Lib.Hide
import Derived.BigQuiet
import Derived.Deep.QuietTactic
namespace Go.Proofs.Ytpdfbkkhmfnnjaa
open Go.RowKit
set_option linter.unusedVariables false
set_option linter.unusedSimpArgs false
set_option maxRecDepth 20000
attribute [local go_sem ↓] Go.wp_at_zero Go.wp_at_succ
attribute [local go_sem] World.cell?_alloc_some frozen_alloc_some
open Go.Shelf

def badR (r : Nat) : Bool := !((decide (97 ≤ r) && decide (r ≤ 122)) || (decide (48 ≤ r) && decide (r ≤ 57)) || decide (r = 46) || decide (r = 45))
theorem badR_ok (c : UInt8) : badR c.toNat = !okC c := by
  unfold badR okC
  have h1 : decide ((97 : UInt8) ≤ c) = decide (97 ≤ c.toNat) := by rw [decide_eq_decide]; exact UInt8.le_iff_toNat_le
  have h2 : decide (c ≤ (122 : UInt8)) = decide (c.toNat ≤ 122) := by rw [decide_eq_decide]; exact UInt8.le_iff_toNat_le
  have h3 : decide ((48 : UInt8) ≤ c) = decide (48 ≤ c.toNat) := by rw [decide_eq_decide]; exact UInt8.le_iff_toNat_le
  have h4 : decide (c ≤ (57 : UInt8)) = decide (c.toNat ≤ 57) := by rw [decide_eq_decide]; exact UInt8.le_iff_toNat_le
  have h5 : (c == (46 : UInt8)) = decide (c.toNat = 46) := by rw [Bool.eq_iff_iff, beq_iff_eq, decide_eq_true_eq, ← UInt8.toNat_inj]; rfl
  have h6 : (c == (45 : UInt8)) = decide (c.toNat = 45) := by rw [Bool.eq_iff_iff, beq_iff_eq, decide_eq_true_eq, ← UInt8.toNat_inj]; rfl
  rw [h1, h2, h3, h4, h5, h6]
theorem decodeN_high (n b0 b1 b2 b3 : Nat) (h : 128 ≤ b0) : 128 ≤ (Lib.decodeN n b0 b1 b2 b3).1 := by
  unfold Lib.decodeN
  repeat' split
  all_goals (simp only; omega)
theorem badR_high {r : Nat} (h : 128 ≤ r) : badR r = true := by
  unfold badR
  have h1 : ¬ r ≤ 122 := by omega
  have h2 : ¬ r ≤ 57 := by omega
  have h3 : ¬ r = 46 := by omega
  have h4 : ¬ r = 45 := by omega
  simp [h1, h2, h3, h4]
theorem idx_all (l : NmT) : ∀ (f pos : Nat), l.length - pos ≤ f → (0 ≤ Lib.idxFuncFrom badR true ⟨⟨l⟩⟩ f pos ↔ (l.drop pos).all okC = false)
  | 0, pos, h => by
    have : l.drop pos = [] := List.drop_eq_nil_of_le (by omega)
    rw [this]
    simp [Lib.idxFuncFrom]
  | f + 1, pos, h => by
    have hsz : (ByteArray.mk ⟨l⟩).size = l.length := rfl
    unfold Lib.idxFuncFrom
    rw [hsz]
    by_cases hp : pos < l.length
    · rw [if_pos hp, List.drop_eq_getElem_cons hp, List.all_cons]
      have hg : (ByteArray.mk ⟨l⟩).get! pos = l[pos] := by
        show (Array.mk l)[pos]! = l[pos]
        rw [getElem!_pos (Array.mk l) pos (by simpa using hp)]
        rfl
      rw [Lib.decode_at, hg]
      by_cases h128 : (l[pos]).toNat < 128
      · rw [show Lib.decodeN ((ByteArray.mk ⟨l⟩).size - pos) (l[pos]).toNat ((ByteArray.mk ⟨l⟩).get! (pos + 1)).toNat ((ByteArray.mk ⟨l⟩).get! (pos + 2)).toNat ((ByteArray.mk ⟨l⟩).get! (pos + 3)).toNat = ((l[pos]).toNat, 1) by simp [Lib.decodeN, h128]]
        simp only
        rw [badR_ok]
        cases hc : okC l[pos]
        · simp
        · simp only [Bool.not_true, Bool.false_eq_true, if_false, Bool.true_and]
          exact idx_all l f (pos + 1) (by omega)
      · have hh := decodeN_high ((ByteArray.mk ⟨l⟩).size - pos) (l[pos]).toNat ((ByteArray.mk ⟨l⟩).get! (pos + 1)).toNat ((ByteArray.mk ⟨l⟩).get! (pos + 2)).toNat ((ByteArray.mk ⟨l⟩).get! (pos + 3)).toNat (by omega)
        rw [if_pos (badR_high hh)]
        have hc : okC l[pos] = false := by
          have := badR_ok l[pos]
          rw [badR_high (by omega)] at this
          simpa using this.symm
        simp [hc]
    · rw [if_neg hp]
      have : l.drop pos = [] := List.drop_eq_nil_of_le (by omega)
      rw [this]
      simp
theorem contains_all (l : NmT) : decide (0 ≤ Lib.idxFunc badR true ⟨⟨l⟩⟩) = !l.all okC := by
  have h := idx_all l l.length 0 (by omega)
  rw [List.drop_zero] at h
  unfold Lib.idxFunc
  rw [show (ByteArray.mk ⟨l⟩).size = l.length from rfl]
  cases ha : l.all okC
  · simp [h, ha]
  · simp only [Bool.not_true, decide_eq_false_iff_not, h, ha]
    simp
set_option maxHeartbeats 2000000 in
theorem other_any (w : World) : PredAt Try.prog 96 #[] encR badR w := fun W r _ => by
  unfold FnGives
  have q1 : r < 45 ∨ r = 45 ∨ r = 46 ∨ r = 47 ∨ (48 ≤ r ∧ r ≤ 57) ∨ (58 ≤ r ∧ r ≤ 96) ∨ (97 ≤ r ∧ r ≤ 122) ∨ 123 ≤ r := by omega
  unfold encR
  rcases q1 with h | h | h | h | h | h | h | h
  all_goals
    have hB : ∃ B, badR r = B := ⟨_, rfl⟩
    obtain ⟨B, hB⟩ := hB
    have HB := Lib.hid hB
    rw [hB]
    clear hB
  · have z1 : ¬ (97 : Int) ≤ (r : Int) := by omega
    have z2 : ¬ (48 : Int) ≤ (r : Int) := by omega
    have z3 : ((r : Int) == 46) = false := by simpa using (show ¬ (r : Int) = 46 by omega)
    have z4 : ((r : Int) == 45) = false := by simpa using (show ¬ (r : Int) = 45 by omega)
    obtain rfl : B = true := by rw [← HB.out]; simp [badR]; omega
    go_enter Try.func96, Try.ntmps96
    go_wp2
    go_ret
    exact ⟨rfl, 0, rfl⟩
  · subst h
    obtain rfl : B = false := by rw [← HB.out]; rfl
    go_enter Try.func96, Try.ntmps96
    go_wp2
    go_ret
    exact ⟨rfl, 0, rfl⟩
  · subst h
    obtain rfl : B = false := by rw [← HB.out]; rfl
    go_enter Try.func96, Try.ntmps96
    go_wp2
    go_ret
    exact ⟨rfl, 0, rfl⟩
  · subst h
    obtain rfl : B = true := by rw [← HB.out]; rfl
    go_enter Try.func96, Try.ntmps96
    go_wp2
    go_ret
    exact ⟨rfl, 0, rfl⟩
  · have z1 : ¬ (97 : Int) ≤ (r : Int) := by omega
    have z2 : (48 : Int) ≤ (r : Int) := by omega
    have z3 : (r : Int) ≤ 57 := by omega
    obtain rfl : B = false := by rw [← HB.out]; simp [badR]; omega
    go_enter Try.func96, Try.ntmps96
    go_wp2
    go_ret
    exact ⟨rfl, 0, rfl⟩
  · have z1 : ¬ (97 : Int) ≤ (r : Int) := by omega
    have z2 : (48 : Int) ≤ (r : Int) := by omega
    have z3 : ¬ (r : Int) ≤ 57 := by omega
    have z4 : ((r : Int) == 46) = false := by simpa using (show ¬ (r : Int) = 46 by omega)
    have z5 : ((r : Int) == 45) = false := by simpa using (show ¬ (r : Int) = 45 by omega)
    obtain rfl : B = true := by rw [← HB.out]; simp [badR]; omega
    go_enter Try.func96, Try.ntmps96
    go_wp2
    go_ret
    exact ⟨rfl, 0, rfl⟩
  · have z1 : (97 : Int) ≤ (r : Int) := by omega
    have z2 : (r : Int) ≤ 122 := by omega
    obtain rfl : B = false := by rw [← HB.out]; simp [badR]; omega
    go_enter Try.func96, Try.ntmps96
    go_wp2
    go_ret
    exact ⟨rfl, 0, rfl⟩
  · have z1 : (97 : Int) ≤ (r : Int) := by omega
    have z2 : ¬ (r : Int) ≤ 122 := by omega
    have z3 : (48 : Int) ≤ (r : Int) := by omega
    have z4 : ¬ (r : Int) ≤ 57 := by omega
    have z5 : ((r : Int) == 46) = false := by simpa using (show ¬ (r : Int) = 46 by omega)
    have z6 : ((r : Int) == 45) = false := by simpa using (show ¬ (r : Int) = 45 by omega)
    obtain rfl : B = true := by rw [← HB.out]; simp [badR]; omega
    go_enter Try.func96, Try.ntmps96
    go_wp2
    go_ret
    exact ⟨rfl, 0, rfl⟩
theorem containsF_any (s : NmT) (w : World) : Calls Try.prog 97 #[.string ⟨⟨s⟩⟩, .func (.func 96) #[] #[]] w (Gives w (.bool (!s.all okC))) := by
  have h := Any.strings_ContainsFunc Try.containsF 96 #[] (enters_of Try.func96 (by kernel_rfl) rfl) badR ⟨⟨s⟩⟩ w (other_any w)
  rw [contains_all] at h
  exact h
set_option maxHeartbeats 2000000 in
theorem isname_any (s : NmT) (w : World) (hs : s.length ≤ maxLen) : Calls Try.prog 77 #[.string ⟨⟨s⟩⟩] w (Gives w (.bool (isNm s))) := by
  have hc := fun W => containsF_any s W
  unfold isNm
  cases s with
  | nil =>
    go_enter Try.func77, Try.ntmps77
    go_wp2_with fail
    go_ret
    exact ⟨rfl, Below.refl _ _⟩
  | cons c r =>
    have hl : (ByteArray.mk ⟨c :: r⟩).size = (c :: r).length := rfl
    simp only [List.isEmpty_cons, Bool.not_false, Bool.true_and]
    generalize (c :: r).all okC = al at *
    by_cases h16 : (c :: r).length ≤ 16
    · have h16' : (((c :: r).length : Nat) : Int) ≤ 16 := by omega
      rw [show decide ((c :: r).length ≤ 16) = true from decide_eq_true h16]
      simp only [Bool.true_and]
      cases al
      all_goals
        go_enter Try.func77, Try.ntmps77
        go_wp2_with (go_at_call 97; (with_reducible refine (hc _).mono ?_); rintro e w1 ⟨rfl, hb1⟩)
        go_ret
        exact ⟨rfl, hb1⟩
    · have h16' : ¬ (((c :: r).length : Nat) : Int) ≤ 16 := by omega
      rw [show decide ((c :: r).length ≤ 16) = false from decide_eq_false h16]
      simp only [Bool.false_and]
      go_enter Try.func77, Try.ntmps77
      go_wp2_with fail
      go_ret
      exact ⟨rfl, Below.refl _ _⟩
end Go.Proofs.Ytpdfbkkhmfnnjaa
