/- Plain laws of the sums of package crc, more: sums of texts that are mixed; bytes of which some bits in a row are turned. No program in sight. -/
import Derived.Test.YtlolnakeancenaaDoorMsgFramesQ1
namespace Go.Proofs.YtlolnakeancenaaDoor
set_option linter.unusedVariables false
set_option linter.unusedSimpArgs false

def zx : List Nat → List Nat → List Nat
  | a :: as1, b :: bs => (a ^^^ b) :: zx as1 bs
  | _, _ => []
theorem cupd_xor (v u c d : Nat) : cupd (v ^^^ u) (c ^^^ d) = cupd v c ^^^ cupd u d := by
  unfold cupd
  rw [← csteps_xor]
  congr 1
  rw [Nat.xor_assoc, Nat.xor_assoc, ← Nat.xor_assoc u, ← Nat.xor_assoc c, Nat.xor_comm u c]
theorem cfold_zx (a b : List Nat) (h : a.length = b.length) (v u : Nat) : cfold (v ^^^ u) (zx a b) = cfold v a ^^^ cfold u b := by
  induction a generalizing b v u with
  | nil => cases b with
    | nil => rfl
    | cons _ _ => simp at h
  | cons x a ih => cases b with
    | nil => simp at h
    | cons y b =>
      show cfold (cupd (v ^^^ u) (x ^^^ y)) (zx a b) = cfold (cupd v x) a ^^^ cfold (cupd u y) b
      rw [cupd_xor]
      exact ih b (by simpa using h) _ _
theorem crcM_sub {v : Nat} (h : v < 2 ^ 32) : crcM - v = crcM ^^^ v := by
  have hx : crcM = 2 ^ 32 - 1 := rfl
  rw [hx]
  apply Nat.eq_of_testBit_eq
  intro i
  rw [Nat.testBit_xor, Nat.testBit_two_pow_sub_one, show 2 ^ 32 - 1 - v = 2 ^ 32 - (v + 1) by omega, Nat.testBit_two_pow_sub_succ h]
  by_cases hi : i < 32
  · simp [hi]
  · have : v.testBit i = false := Nat.testBit_lt_two_pow (Nat.lt_of_lt_of_le h (Nat.pow_le_pow_right (by decide) (by omega)))
    simp [hi, this]
theorem zx_length (a b : List Nat) (h : a.length = b.length) : (zx a b).length = a.length := by
  induction a generalizing b with
  | nil => cases b <;> rfl
  | cons x a ih => cases b with
    | nil => simp at h
    | cons y b => simp [zx, ih b (by simpa using h)]
theorem zx_lt (a b : List Nat) (ha : ∀ c ∈ a, c < 256) (hb : ∀ c ∈ b, c < 256) : ∀ c ∈ zx a b, c < 256 := by
  induction a generalizing b with
  | nil => cases b <;> simp [zx]
  | cons x a ih => cases b with
    | nil => simp [zx]
    | cons y b =>
      intro c hc
      simp only [zx, List.mem_cons] at hc
      rcases hc with rfl | hc
      · exact Nat.xor_lt_two_pow (n := 8) (ha x (by simp)) (hb y (by simp))
      · exact ih b (fun c h => ha c (by simp [h])) (fun c h => hb c (by simp [h])) c hc
theorem zx_getD (a b : List Nat) (h : a.length = b.length) (i : Nat) (hi : i < a.length) : (zx a b).getD i 0 = a.getD i 0 ^^^ b.getD i 0 := by
  induction a generalizing b i with
  | nil => simp at hi
  | cons x a ih => cases b with
    | nil => simp at h
    | cons y b => cases i with
      | zero => simp [zx]
      | succ i => simpa [zx] using ih b (by simpa using h) i (by simpa using hi)
/-- The lowest k bytes of a number, the lowest first. -/
def lebs : Nat → Nat → List Nat
  | 0, _ => []
  | k + 1, d => (d % 256) :: lebs k (d / 256)
theorem lebs_length (k d : Nat) : (lebs k d).length = k := by
  induction k generalizing d with
  | zero => rfl
  | succ k ih => simp [lebs, ih]
theorem lebs_getD (k d i : Nat) (h : i < k) : (lebs k d).getD i 0 = d / 256 ^ i % 256 := by
  induction k generalizing d i with
  | zero => omega
  | succ k ih => cases i with
    | zero => simp [lebs]
    | succ i =>
      have := ih (d / 256) i (by omega)
      simp only [lebs, List.getD_cons_succ, this, Nat.div_div_eq_div_mul, Nat.pow_succ, Nat.mul_comm]
theorem cfold_lebs (k d v : Nat) (h : d < 256 ^ k) : cfold v (lebs k d) = csteps (8 * k) (v ^^^ d) := by
  induction k generalizing d v with
  | zero => obtain rfl : d = 0 := by simpa using h
            simp [lebs, cfold, csteps]
  | succ k ih =>
    have hd : d / 256 < 256 ^ k := by rw [Nat.pow_succ] at h; omega
    show cfold (cupd v (d % 256)) (lebs k (d / 256)) = _
    rw [ih _ _ hd, show 8 * (k + 1) = 8 * k + 8 by omega, csteps_add]
    congr 1
    have e := split_xor 8 d
    rw [show (2 : Nat) ^ 8 = 256 by decide] at e
    conv => rhs; rw [e]
    rw [Nat.xor_comm (256 * (d / 256)), ← Nat.xor_assoc, csteps_xor, show 256 * (d / 256) = 2 ^ 8 * (d / 256) by rfl, csteps_shift]
    rfl
theorem cupd_zero (v : Nat) : cupd v 0 = csteps 8 v := by simp [cupd]
theorem cfold_zeros (n v : Nat) : cfold v (List.replicate n 0) = csteps (8 * n) v := by
  induction n generalizing v with
  | zero => rfl
  | succ n ih =>
    rw [List.replicate_succ]
    show cfold (cupd v 0) (List.replicate n 0) = _
    rw [ih, cupd_zero, show 8 * (n + 1) = 8 * n + 8 by omega, csteps_add]
theorem csteps_nil (n : Nat) : csteps n 0 = 0 := by
  have := csteps_shift n 0
  simpa using this
/-- What of n bytes is turned: nothing, then the five lowest bytes of d from place p on, then nothing. -/
def turnd (n p d : Nat) : List Nat := List.replicate p 0 ++ (lebs 5 d ++ List.replicate (n - p - 5) 0)
theorem turnd_length {n p d : Nat} (h : p + 5 ≤ n) : (turnd n p d).length = n := by simp [turnd, lebs_length]; omega
theorem cfold_turnd_ne (n p s t : Nat) (hs : s < 8) (ht : t < 2 ^ 32) (h0 : t ≠ 0) : cfold 0 (turnd n p (2 ^ s * t)) ≠ 0 := by
  have hD : 2 ^ s * t < 256 ^ 5 := by
    have h1 : 2 ^ s ≤ 2 ^ 7 := Nat.pow_le_pow_right (by decide) (by omega)
    have : 2 ^ s * t ≤ 2 ^ 7 * t := Nat.mul_le_mul_right _ h1
    omega
  unfold turnd
  rw [cfold_append, cfold_append, cfold_zeros p, csteps_nil, cfold_lebs _ _ _ hD, Nat.zero_xor, cfold_zeros]
  rw [show 8 * 5 = (40 - s) + s by omega, csteps_add (40 - s) s, csteps_shift]
  exact csteps_ne _ (csteps_lt _ ht) (csteps_ne _ ht h0)
theorem turnd_lt (n p d : Nat) : ∀ c ∈ turnd n p d, c < 256 := by
  have hl : ∀ k d, ∀ c ∈ lebs k d, c < 256 := by
    intro k
    induction k with
    | zero => simp [lebs]
    | succ k ih => intro d c hc; simp only [lebs, List.mem_cons] at hc; rcases hc with rfl | hc; exact Nat.mod_lt _ (by decide); exact ih _ _ hc
  intro c hc
  simp only [turnd, List.mem_append, List.mem_replicate] at hc
  rcases hc with ⟨_, rfl⟩ | hc | ⟨_, rfl⟩
  · decide
  · exact hl _ _ _ hc
  · decide
/-- Bytes of which one to 32 bits in a row are turned have another sum. -/
theorem crc_turned (b : List Nat) (hb : ∀ x ∈ b, x < 256) (p s t : Nat) (hp : p + 5 ≤ b.length) (hs : s < 8) (ht : t < 2 ^ 32) (h0 : t ≠ 0) :
    crc (zx b (turnd b.length p (2 ^ s * t))) ≠ crc b := by
  have hM : crcM < 2 ^ 32 := by decide
  intro h
  unfold crc at h
  rw [crcM_sub (cfold_lt _ (zx_lt _ _ hb (turnd_lt _ _ _)) hM), crcM_sub (cfold_lt _ hb hM)] at h
  have h2 := congrArg (crcM ^^^ ·) h
  simp only [← Nat.xor_assoc, Nat.xor_self, Nat.zero_xor] at h2
  have e := cfold_zx b (turnd b.length p (2 ^ s * t)) (turnd_length hp).symm crcM 0
  rw [Nat.xor_zero] at e
  rw [e] at h2
  have h3 := congrArg (cfold crcM b ^^^ ·) h2
  simp only [← Nat.xor_assoc, Nat.xor_self, Nat.zero_xor] at h3
  exact cfold_turnd_ne _ p s t hs ht h0 h3
theorem getD_app_l {a b : List Nat} {i : Nat} (h : i < a.length) : (a ++ b).getD i 0 = a.getD i 0 := by
  simp [List.getD, List.getElem?_append, h]
theorem getD_app_r {a b : List Nat} {i : Nat} (h : a.length ≤ i) : (a ++ b).getD i 0 = b.getD (i - a.length) 0 := by
  simp [List.getD, List.getElem?_append, Nat.not_lt.2 h]
theorem turnd_getD {n p d i : Nat} (h : p + 5 ≤ n) (hi : i < n) : (turnd n p d).getD i 0 = if p ≤ i ∧ i < p + 5 then d / 256 ^ (i - p) % 256 else 0 := by
  unfold turnd
  by_cases h1 : i < p
  · rw [if_neg (by omega), getD_app_l (by simpa using h1)]
    simp [List.getD, List.getElem?_replicate, h1]
  · rw [getD_app_r (by simpa using Nat.not_lt.1 h1), List.length_replicate]
    by_cases h2 : i < p + 5
    · rw [if_pos (by omega), getD_app_l (by rw [lebs_length]; omega), lebs_getD _ _ _ (by omega)]
    · rw [if_neg (by omega), getD_app_r (by rw [lebs_length]; omega)]
      simp [List.getD, List.getElem?_replicate]
      split <;> rfl
end Go.Proofs.YtlolnakeancenaaDoor
