/- Plain laws of the sums of package crc, more: sums of texts that are mixed; bytes of which some bits in a row are turned. No program in sight. -/
import Derived.Test.YtlolnakeancenaaDoorShimApartQ0
namespace Go.Proofs.YtlolnakeancenaaDoor
set_option linter.unusedVariables false
set_option linter.unusedSimpArgs false
theorem crcM_sub {v:Nat} (h:v<2 ^ 32):crcM - v=crcM ^^^ v:=by
  have hx:crcM=2 ^ 32 - 1:=rfl
  rw [hx]
  apply Nat.eq_of_testBit_eq
  intro i
  rw [Nat.testBit_xor,Nat.testBit_two_pow_sub_one,show 2 ^ 32 - 1 - v=2 ^ 32 - (v+1) by omega,Nat.testBit_two_pow_sub_succ h]
  by_cases hi:i<32
  · simp [hi]
  · have:v.testBit i=false:=Nat.testBit_lt_two_pow (Nat.lt_of_lt_of_le h (Nat.pow_le_pow_right (by decide) (by omega)))
    simp [hi,this]
end Go.Proofs.YtlolnakeancenaaDoor
