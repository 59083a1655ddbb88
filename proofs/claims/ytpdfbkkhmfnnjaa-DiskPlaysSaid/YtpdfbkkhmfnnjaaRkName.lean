/- The document's disk: what is a name. -/
import Derived.Test.YtpdfbkkhmfnnjaaRkMem
import Derived.Test.YtpdfbkkhmfnnjaaIsName
import Derived.WalkKit
import Derived.WalkSpells
import Derived.WalkLawsBesides
import Derived.Deep.RegionHeld3
import Derived.Deep.DrawnRows
import Derived.Deep.DeepCutAuto
import Derived.Deep.DeepFit
import Derived.Lib.Hide
import Derived.BigQuiet
import Derived.Deep.QuietTactic
namespace Go.Proofs.Ytpdfbkkhmfnnjaa
open Go.RowKit
set_option linter.unusedVariables false
set_option linter.unusedSimpArgs false
set_option maxRecDepth 20000
attribute [local go_sem ↓] Go.wp_at_zero Go.wp_at_succ
attribute [local go_sem] World.cell?_alloc_some frozen_alloc_some
attribute [local go_sem] lt2 lt3 lt4 lt5
attribute [local simp] lt2 lt3 lt4 lt5

theorem badR_ok2 (c : UInt8) : okC c = ((decide (97 ≤ c.toNat) && decide (c.toNat ≤ 122)) || (decide (48 ≤ c.toNat) && decide (c.toNat ≤ 57)) || decide (c.toNat = 46) || decide (c.toNat = 45)) := by
  have h : okC c = !badR c.toNat := by rw [badR_ok]; simp
  rw [h]
  unfold badR
  rw [Bool.not_not]
set_option maxHeartbeats 4000000 in
theorem name12_any (s : NmT) (w : World) (hs : s.length ≤ maxLen) : Calls Try.prog 87 #[sK s] w (Gives w (.bool (isNm s))) := by
  go_enter Try.func87, Try.ntmps87
  go_wp2_with fail
  go_loop [3] (fun s3 => ∃ i : Nat, i ≤ s.length ∧ s3 = .int .i64 i ∧ Hid ((s.take i).all okC = true)) (fun s3 => s.length - (intOf s3).toNat)
  case atStart => exact ⟨0, by omega, rfl, Lib.hid (by simp)⟩
  case round =>
    obtain ⟨i, hi, rfl, hn⟩ := hrel
    by_cases hlt : i < s.length
    · have i0 : (0 : Int) ≤ (i : Int) := by omega
      have i1 : (i : Int) < (s.length : Int) := by omega
      have hs3 : s.length ≤ 9223372036854775807 := by unfold maxLen at hs; omega
      have hst : (s.take (i + 1)).all okC = ((s.take i).all okC && okC s[i]) := by
        rw [List.take_add_one, List.getElem?_eq_getElem hlt, List.all_append]
        simp
      rw [hn.out, Bool.true_and] at hst
      have FINF := Lib.hid (fun (h : okC s[i] = false) => show Gives w (.bool (isNm s)) (.returned (.bool false)) w from ⟨by
        have h1 : s.all okC = false := by
          cases ha : s.all okC
          · rfl
          · have := List.all_eq_true.1 ha s[i] (List.getElem_mem hlt)
            rw [h] at this; cases this
        simp [isNm, h1], Below.refl _ _⟩)
      have Hst := Lib.hid hst
      clear hst
      go_upto_region 5 with fail
      have he : (ByteArray.mk ⟨s⟩)[i] = s[i] := rfl
      rw [he]
      generalize s[i] = cc at Hst FINF
      have hok := badR_ok2 cc
      have hc256 : cc.toNat < 256 := cc.toNat_lt
      generalize hr : cc.toNat = r at hok hc256 ⊢
      have q1 : r < 45 ∨ r = 45 ∨ r = 46 ∨ r = 47 ∨ (48 ≤ r ∧ r ≤ 57) ∨ (58 ≤ r ∧ r ≤ 96) ∨ (97 ≤ r ∧ r ≤ 122) ∨ 123 ≤ r := by omega
      have HOK := Lib.hid hok
      clear hok hr he
      rcases q1 with h | h | h | h | h | h | h | h
      · have z1 : ¬ (97 : Int) ≤ (r : Int) := by omega
        have z2 : ¬ (48 : Int) ≤ (r : Int) := by omega
        have z3 : ((r : Int) == 46) = false := by simpa using (show ¬ (r : Int) = 46 by omega)
        have z4 : ((r : Int) == 45) = false := by simpa using (show ¬ (r : Int) = 45 by omega)
        have FIN := Lib.hid (FINF.out (by rw [HOK.out]; simp; omega))
        go_wp2_with fail
        go_ret
        exact FIN.out
      · subst h
        have hk := Lib.hid (show (s.take (i + 1)).all okC = true by rw [Hst.out, HOK.out]; rfl)
        go_wp2_with fail
        go_round
        case rel => exact ⟨i + 1, by omega, by go_num, hk⟩
        case measure => simp [intOf]; omega
      · subst h
        have hk := Lib.hid (show (s.take (i + 1)).all okC = true by rw [Hst.out, HOK.out]; rfl)
        go_wp2_with fail
        go_round
        case rel => exact ⟨i + 1, by omega, by go_num, hk⟩
        case measure => simp [intOf]; omega
      · subst h
        have FIN := Lib.hid (FINF.out (by rw [HOK.out]; rfl))
        go_wp2_with fail
        go_ret
        exact FIN.out
      · have z1 : ¬ (97 : Int) ≤ (r : Int) := by omega
        have z2 : (48 : Int) ≤ (r : Int) := by omega
        have z3 : (r : Int) ≤ 57 := by omega
        have hk := Lib.hid (show (s.take (i + 1)).all okC = true by rw [Hst.out, HOK.out]; simp; omega)
        go_wp2_with fail
        go_round
        case rel => exact ⟨i + 1, by omega, by go_num, hk⟩
        case measure => simp [intOf]; omega
      · have z1 : ¬ (97 : Int) ≤ (r : Int) := by omega
        have z2 : (48 : Int) ≤ (r : Int) := by omega
        have z3 : ¬ (r : Int) ≤ 57 := by omega
        have z4 : ((r : Int) == 46) = false := by simpa using (show ¬ (r : Int) = 46 by omega)
        have z5 : ((r : Int) == 45) = false := by simpa using (show ¬ (r : Int) = 45 by omega)
        have FIN := Lib.hid (FINF.out (by rw [HOK.out]; simp; omega))
        go_wp2_with fail
        go_ret
        exact FIN.out
      · have z1 : (97 : Int) ≤ (r : Int) := by omega
        have z2 : (r : Int) ≤ 122 := by omega
        have hk := Lib.hid (show (s.take (i + 1)).all okC = true by rw [Hst.out, HOK.out]; simp; omega)
        go_wp2_with fail
        go_round
        case rel => exact ⟨i + 1, by omega, by go_num, hk⟩
        case measure => simp [intOf]; omega
      · have z1 : (97 : Int) ≤ (r : Int) := by omega
        have z2 : ¬ (r : Int) ≤ 122 := by omega
        have z3 : (48 : Int) ≤ (r : Int) := by omega
        have z4 : ¬ (r : Int) ≤ 57 := by omega
        have z5 : ((r : Int) == 46) = false := by simpa using (show ¬ (r : Int) = 46 by omega)
        have z6 : ((r : Int) == 45) = false := by simpa using (show ¬ (r : Int) = 45 by omega)
        have FIN := Lib.hid (FINF.out (by rw [HOK.out]; simp; omega))
        go_wp2_with fail
        go_ret
        exact FIN.out
    · have nk : ¬ (i : Int) < (s.length : Int) := by omega
      have ha : s.all okC = true := by have h1 := hn.out; rw [List.take_of_length_le (by omega)] at h1; exact h1
      have hemp : s.isEmpty = decide (s.length = 0) := by cases s <;> simp
      have hnm : isNm s = (decide (1 ≤ s.length) && decide (s.length ≤ 16)) := by
        unfold isNm; rw [ha, hemp, Bool.and_true]; congr 1; by_cases h : s.length = 0 <;> simp [h]; omega
      have Hnm := Lib.hid hnm
      have z0 : s.length = 0 ∨ (1 ≤ s.length ∧ s.length ≤ 16) ∨ 16 < s.length := by omega
      clear ha hemp hnm hn
      rcases z0 with h | h | h
      · have y1 : ¬ (1 : Int) ≤ (s.length : Int) := by omega
        have FIN := Lib.hid (show Gives w (.bool (isNm s)) (.returned (.bool false)) w from ⟨by rw [Hnm.out]; simp [h], Below.refl _ _⟩)
        go_wp2_with fail
        go_ret
        exact FIN.out
      · have y1 : (1 : Int) ≤ (s.length : Int) := by omega
        have y2 : (s.length : Int) ≤ 16 := by omega
        have FIN := Lib.hid (show Gives w (.bool (isNm s)) (.returned (.bool true)) w from ⟨by rw [Hnm.out]; simp [h], Below.refl _ _⟩)
        go_wp2_with fail
        go_ret
        exact FIN.out
      · have y1 : (1 : Int) ≤ (s.length : Int) := by omega
        have y2 : ¬ (s.length : Int) ≤ 16 := by omega
        have FIN := Lib.hid (show Gives w (.bool (isNm s)) (.returned (.bool false)) w from ⟨by rw [Hnm.out, show decide (s.length ≤ 16) = false from decide_eq_false (by omega)]; simp, Below.refl _ _⟩)
        go_wp2_with fail
        go_ret
        exact FIN.out
end Go.Proofs.Ytpdfbkkhmfnnjaa
